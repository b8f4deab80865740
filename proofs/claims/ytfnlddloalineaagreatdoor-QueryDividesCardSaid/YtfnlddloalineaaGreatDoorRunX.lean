/-
  The program's Run: the first half: the sums in the map.
-/
import Derived.Test.YtfnlddloalineaaGreatDoorRunF
import Derived.Test.YtfnlddloalineaaGreatDoorRunD
import Derived.Test.YtfnlddloalineaaGreatDoorRunB
import Derived.Test.YtfnlddloalineaaGreatDoorQfs
import Derived.Test.YtfnlddloalineaaGreatDoorRunC
import Derived.Deep.Cut
import Derived.Deep.CutRange
import Derived.Deep.CutBlock
import Derived.Carry
namespace Go.Proofs.YtfnlddloalineaaGreatDoor
open Go.RowKit
set_option linter.unusedVariables false
set_option linter.unusedSimpArgs false
set_option maxRecDepth 100000
/-- what stands while the sums are made -/
structure RnS (w : World) (X M L BF : Nat) (verb : Int) (vb vw : Value) (wh : List SCond) (AL : Option Addr) (cL : Nat) (AF : Option Addr) (nF : Nat) (F : List SFact) (l : List (K5 × Int)) (x : World) : Prop where
  below : Below w.heap.size w x
  q0 : x.cell? ⟨X, 0, none⟩ = some (.int .i64 verb)
  q1 : x.cell? ⟨X, 1, none⟩ = some vb
  q2 : x.cell? ⟨X, 2, none⟩ = some vw
  map : MapS x M l
  hM : w.heap.size ≤ M
  fl : FlR x L wh AL cL
  fct : Reads x BF 6 AF nF (fctsC F)
theorem RnS.step {w x y : World} {X M L BF : Nat} {verb : Int} {vb vw : Value} {wh : List SCond} {AL : Option Addr} {cL : Nat} {AF : Option Addr} {nF : Nat} {F : List SFact} {l l' : List (K5 × Int)} (h : RnS w X M L BF verb vb vw wh AL cL AF nF F l x) (hk : KeepC x y) (hb : Below w.heap.size w y) (hm : MapS y M l') : RnS w X M L BF verb vb vw wh AL cL AF nF F l' y :=
  ⟨hb, hk.2 _ _ h.q0, hk.2 _ _ h.q1, hk.2 _ _ h.q2, hm, h.hM, h.fl.keep hk, h.fct.keepC hk⟩
theorem RnS.same {w x y : World} {X M L BF : Nat} {verb : Int} {vb vw : Value} {wh : List SCond} {AL : Option Addr} {cL : Nat} {AF : Option Addr} {nF : Nat} {F : List SFact} {l : List (K5 × Int)} (h : RnS w X M L BF verb vb vw wh AL cL AF nF F l x) (hb : Below x.heap.size x y) : RnS w X M L BF verb vb vw wh AL cL AF nF F l y :=
  h.step (KeepC.of_below hb) (below_two h.below hb) (h.map.below hb h.map.lt)
theorem RnS.lt {w x : World} {X M L BF : Nat} {verb : Int} {vb vw : Value} {wh : List SCond} {AL : Option Addr} {cL : Nat} {AF : Option Addr} {nF : Nat} {F : List SFact} {l : List (K5 × Int)} (h : RnS w X M L BF verb vb vw wh AL cL AF nF F l x) : X < x.heap.size ∧ w.heap.size ≤ x.heap.size := ⟨World.block_lt_of_cell? _ _ h.q0, h.below.size⟩
theorem QfS.step {w : World} {X : Nat} {per : Int} {vi vp vt : Value} {verb : Int} {vb vw : Value} {x y : World} (h : QfS w X per vi vp vt verb vb vw x) (hk : KeepC x y) (hb : Below w.heap.size w y) : QfS w X per vi vp vt verb vb vw y :=
  ⟨hb, hk.2 _ _ h.r0, hk.2 _ _ h.r1, hk.2 _ _ h.r2, hk.2 _ _ h.r3, hk.2 _ _ h.q0, hk.2 _ _ h.q1, hk.2 _ _ h.q2⟩
theorem okK_k0 : okK k0 := ⟨rfl, rfl, rfl, rfl, rfl⟩
/-- the key under way: its first j numbers are set -/
def kfJ (byl : List Int) (f : SFact) (j i : Nat) : Int := if i < j then fldF f (byl.getD i 0) else 0
def kArr (byl : List Int) (f : SFact) (j : Nat) : Array Value := #[.int .i64 (kfJ byl f j 0), .int .i64 (kfJ byl f j 1), .int .i64 (kfJ byl f j 2), .int .i64 (kfJ byl f j 3), .int .i64 (kfJ byl f j 4)]
theorem kfJ_set (byl : List Int) (f : SFact) (j i : Nat) (h : i ≠ j) : kfJ byl f (j + 1) i = kfJ byl f j i := by
  unfold kfJ
  by_cases h1 : i < j
  · rw [if_pos h1, if_pos (by omega)]
  · rw [if_neg h1, if_neg (by omega)]
theorem kfJ_new (byl : List Int) (f : SFact) (j : Nat) : kfJ byl f (j + 1) j = fldF f (byl.getD j 0) := by unfold kfJ; rw [if_pos (by omega)]
theorem kArr_set (byl : List Int) (f : SFact) {j : Nat} (h : j < 5) : (kArr byl f j).setIfInBounds j (.int .i64 (fldF f (byl.getD j 0))) = kArr byl f (j + 1) := by
  unfold kArr
  rw [← kfJ_new]
  match j, h with
  | 0, _ => rw [kfJ_set _ _ 0 1 (by decide), kfJ_set _ _ 0 2 (by decide), kfJ_set _ _ 0 3 (by decide), kfJ_set _ _ 0 4 (by decide)]; rfl
  | 1, _ => rw [kfJ_set _ _ 1 0 (by decide), kfJ_set _ _ 1 2 (by decide), kfJ_set _ _ 1 3 (by decide), kfJ_set _ _ 1 4 (by decide)]; rfl
  | 2, _ => rw [kfJ_set _ _ 2 1 (by decide), kfJ_set _ _ 2 0 (by decide), kfJ_set _ _ 2 3 (by decide), kfJ_set _ _ 2 4 (by decide)]; rfl
  | 3, _ => rw [kfJ_set _ _ 3 1 (by decide), kfJ_set _ _ 3 2 (by decide), kfJ_set _ _ 3 0 (by decide), kfJ_set _ _ 3 4 (by decide)]; rfl
  | 4, _ => rw [kfJ_set _ _ 4 1 (by decide), kfJ_set _ _ 4 2 (by decide), kfJ_set _ _ 4 3 (by decide), kfJ_set _ _ 4 0 (by decide)]; rfl
theorem kArr_get (byl : List Int) (f : SFact) (m : Nat) {j : Nat} (h : j < 5) : (kArr byl f m)[j]? = some (.int .i64 (kfJ byl f m j)) := by
  match j, h with
  | 0, _ => rfl
  | 1, _ => rfl
  | 2, _ => rfl
  | 3, _ => rfl
  | 4, _ => rfl
theorem kArr_zero (byl : List Int) (f : SFact) : kArr byl f 0 = #[.int .i64 0, .int .i64 0, .int .i64 0, .int .i64 0, .int .i64 0] := rfl
theorem kArr_end (byl : List Int) (f : SFact) : kArr byl f byl.length = #[.int .i64 (keyF byl f).a, .int .i64 (keyF byl f).b, .int .i64 (keyF byl f).c, .int .i64 (keyF byl f).d, .int .i64 (keyF byl f).e] := rfl
/-- what stands while a fact's key is made -/
structure KyS (w x4 : World) (KB FB : Nat) (ka fa : Array Value) (y : World) : Prop where
  below : Below x4.heap.size x4 y
  kb : Blk y KB 117 ka
  fb : Blk y FB 56 fa
theorem KyS.same {w x4 x y : World} {KB FB : Nat} {ka fa : Array Value} (h : KyS w x4 KB FB ka fa x) (hb : Below x.heap.size x y) : KyS w x4 KB FB ka fa y := ⟨below_two h.below hb, h.kb.below hb h.kb.lt, h.fb.below hb h.fb.lt⟩
theorem KyS.set {w x4 x : World} {KB FB : Nat} {ka fa : Array Value} (h : KyS w x4 KB FB ka fa x) (hK : x4.heap.size ≤ KB) (j : Nat) (u : Value) : KyS w x4 KB FB (ka.setIfInBounds j u) fa (x.setCell ⟨KB, j, none⟩ u) :=
  ⟨h.below.setCell (p := ⟨KB, j, none⟩) hK u, h.kb.set_ j u, h.fb.far (fun e => (h.fb.ne_ h.kb (by decide)) e) u⟩
def moneyB (n : Int) : Bool := decide (-1000000000000 ≤ n) && decide (n ≤ 1000000000000)
/-- the rows of an answer in memory -/
def RowsIn (x : World) (nb : Nat) (l : List (K5 × Int)) (A : Option Addr) (n : Nat) : Prop := n = l.length ∧ ∃ rs : List RRow, rs.map (fun r => (r.ks, r.val)) = l.map (fun p => (p.1.l.take nb, p.2)) ∧ Reads x x.heap.size 2 A n (rrowsC rs) ∧ ∀ j, j < n → RowIn x x.heap.size (rs.getD j default) ∧ (rs.getD j default).n ≤ (rs.getD j default).c
theorem putM_len : ∀ (l : List (K5 × Int)) (k : K5) (v : Int), (putM l k v).length ≤ l.length + 1 := by
  intro l
  induction l with
  | nil => intro k v; exact Nat.le_refl _
  | cons p r ih =>
    intro k v
    rw [putM]
    have := ih k v
    split
    · simp
    · simp only [List.length_cons]; omega
theorem sumsR_len {verb : Int} {byl : List Int} {p : SFact → Bool} {F : List SFact} : ∀ k, k ≤ F.length → (sumsR verb byl p (F.take k)).length ≤ 1 + k := by
  intro k
  induction k with
  | zero =>
    intro _
    rw [List.take_zero]
    unfold sumsR startR
    rw [List.foldl_nil]
    split <;> simp
  | succ k ih =>
    intro h
    have h1 := ih (by omega)
    rw [sumsR_step (by omega)]
    split
    · unfold addR
      have := putM_len (sumsR verb byl p (F.take k)) (keyF byl (F.getD k default)) (getM (sumsR verb byl p (F.take k)) (keyF byl (F.getD k default)) + addF verb (F.getD k default))
      omega
    · omega
theorem MapS.ok {w : World} {b : Nat} {l : List (K5 × Int)} (h : MapS w b l) {k : K5} (hk : k ∈ l.map (·.1)) : okK k := by
  obtain ⟨_, _, _, _, _, _, h7, _⟩ := h
  obtain ⟨p, hp, rfl⟩ := List.mem_map.1 hk
  exact h7 p hp
theorem k5_reads {w : World} {g B nb : Nat} {k : K5} (hb : Blk w g 117 #[.int .i64 k.a, .int .i64 k.b, .int .i64 k.c, .int .i64 k.d, .int .i64 k.e]) (hg : g < B) (hn : nb ≤ 5) : Reads w B 1 (some ⟨g, 0, none⟩) nb ((k.l.take nb).map intV) := by
  refine ⟨by rw [List.length_map, List.length_take, l_len]; omega, fun _ => ⟨⟨g, 0, none⟩, rfl, hg, fun j u hu => ?_⟩⟩
  have e : (⟨g, 0, none⟩ : Addr).add j = ⟨g, j, none⟩ := by unfold Addr.add; split <;> simp_all
  rw [e, hb.cell j]
  rw [List.map_take] at hu
  have hj := (List.getElem?_eq_some_iff.1 hu).1
  rw [List.length_take] at hj
  rw [List.getElem?_take_of_lt (by omega)] at hu
  rw [List.getElem?_toArray]
  exact hu
theorem info_prow : (Tryz.prog.info? 68).map (fun i => (i.zero, i.size, i.bytes)) = some (some (.agg #[.slice none 0 0, .int .i64 0]), 2, 32) := by kernel_rfl
/-- what stands while the rows are made -/
structure RwP (x0 : World) (nb : Nat) (SS : List (K5 × Int)) (d : List K5) (rs : List RRow) (v : Value) (i : Nat) (x : World) : Prop where
  below : Below x0.heap.size x0 x
  row : x.ownsRow x0.heap.size 68 2 v i (rrowsC rs)
  len : rs.length = i
  eq : rs.map (fun r => (r.ks, r.val)) = (d.take i).map fun k => (k.l.take nb, getM SS k)
  ks : ∀ r, r ∈ rs → r.n = nb ∧ r.ks.length = nb ∧ x.ownsRow x0.heap.size 3 1 (.slice r.A r.n r.c) r.n (r.ks.map intV)
  ok : ∀ k, k ∈ d.take i → moneyB (getM SS k) = true
theorem RwP.start (x0 : World) (nb : Nat) (SS : List (K5 × Int)) (d : List K5) : RwP x0 nb SS d [] (.slice none 0 0) 0 x0 := ⟨Below.refl _ _, World.ownsRow_nil _ _ _ _, rfl, rfl, fun r h => (by cases h), fun k h => (by simp at h)⟩
theorem RwP.push {x0 x y w6 : World} {nb : Nat} {SS : List (K5 × Int)} {d : List K5} {rs : List RRow} {v v6 : Value} {i c' : Nat} {A' : Option Addr} {key : K5} (h : RwP x0 nb SS d rs v i x) (hkey : d[i]? = some key) (hnb : nb ≤ 5) (hmo : moneyB (getM SS key) = true)
    (hxy : Below x.heap.size x y) (hcl : y.ownsRow x0.heap.size 3 1 (.slice A' nb c') nb ((key.l.take nb).map intV)) (hg : y.grownBy w6 v.ownBlock) (hown : w6.ownsRow x0.heap.size 68 2 v6 (i + 1) (rrowsC rs ++ [.slice A' nb c', .int .i64 (getM SS key)])) :
    RwP x0 nb SS d (rs ++ [⟨A', nb, c', key.l.take nb, getM SS key⟩]) v6 (i + 1) w6 := by
  have hlt : i < d.length := (List.getElem?_eq_some_iff.1 hkey).1
  have htake : d.take (i + 1) = d.take i ++ [key] := by rw [List.take_add_one, hkey]; rfl
  have hrow := own_below h.row hxy
  have keep : ∀ {A : Option Addr} {n c : Nat} {xs : List Value}, y.ownsRow x0.heap.size 3 1 (.slice A n c) n xs → w6.ownsRow x0.heap.size 3 1 (.slice A n c) n xs := fun ho => ho.kept hg (own_own_ne ho hrow (by decide))
  refine ⟨?_, ?_, by rw [List.length_append, h.len]; rfl, ?_, ?_, ?_⟩
  · exact (below_two h.below hxy).grown hg (below_two h.below hxy).size (fun r e => own_base hrow r e)
  · rw [rrowsC_app]; exact hown
  · rw [List.map_append, htake, List.map_append, h.eq]; rfl
  · intro r hr
    rcases List.mem_append.1 hr with hr | hr
    · obtain ⟨h1, h2, h3⟩ := h.ks r hr
      exact ⟨h1, h2, keep (own_below h3 hxy)⟩
    · rw [List.mem_singleton] at hr
      subst hr
      exact ⟨rfl, by show (key.l.take nb).length = nb; rw [List.length_take, l_len]; omega, keep hcl⟩
  · intro k hk
    rw [htake] at hk
    rcases List.mem_append.1 hk with hk | hk
    · exact h.ok k hk
    · rw [List.mem_singleton] at hk; rw [hk]; exact hmo
theorem rdby_own {x : World} {b : Nat} {A : Option Addr} {n c : Nat} {ks : List Int} (h : x.ownsRow b 3 1 (.slice A n c) n (ks.map intV)) (hn : ks.length = n) : RdBy x x.heap.size A ks := fun h0 => by
  rcases h.2 with ⟨hv, h1⟩ | ⟨g, cap, cur, hv, hb0, hb, h1, h2, h3, h4⟩
  · omega
  · simp only [Value.slice.injEq] at hv
    obtain ⟨rfl, _, rfl⟩ := hv
    refine ⟨g, 0, rfl, (Array.getElem?_eq_some_iff.1 hb).1, fun j hj => ?_⟩
    have e : x.cell? ⟨g, 0 + j, none⟩ = cur[j]? := by rw [Nat.zero_add]; simp [World.cell?, hb]
    rw [e, ← Array.getElem?_toList]
    have h5 : (cur.toList.take (n * 1))[j]? = cur.toList[j]? := List.getElem?_take_of_lt (by omega)
    rw [← h5, h4, List.getElem?_map, List.getElem?_eq_getElem hj]
    simp [intV, List.getD, hj]
/-- how Run ends -/
def RunSays (okb : Bool) (nb : Nat) (l : List (K5 × Int)) (e : Ending) (x : World) : Prop :=
  (okb = false ∧ e = .returned (.tuple #[.slice none 0 0, .int .i64 1])) ∨
  (okb = true ∧ (∃ p, p ∈ l ∧ moneyB p.2 = false) ∧ e = .returned (.tuple #[.slice none 0 0, .int .i64 2])) ∨
  (okb = true ∧ (∀ p, p ∈ l → moneyB p.2 = true) ∧ ∃ A n c, e = .returned (.tuple #[.slice A n c, .int .i64 0]) ∧ RowsIn x nb l A n)
set_option maxHeartbeats 8000000 in
theorem run_core (per verb : Int) (vi vp vt : Value) (byl : List Int) (wh : List SCond) (Ab Aw : Option Addr) (nb cb nw cw : Nat) (F : List SFact) (okb : Bool) (w : World)
    (hV : ∀ x, Below w.heap.size w x → Calls Tryz.prog 20 #[.agg #[.int .i64 verb, .slice Ab nb cb, .slice Aw nw cw]] x fun e w' => e = .returned (.bool okb) ∧ Below x.heap.size x w')
    (hFi : okb = true → ∀ x, Below w.heap.size w x → Calls Tryz.prog 57 #[.agg #[.int .i64 verb, .slice Ab nb cb, .slice Aw nw cw]] x fun e w' => ∃ vl cl, cl.length = nw ∧ e = .returned (.func (.func 90) #[] #[.pointer (some ⟨x.heap.size + 1, 0, none⟩)]) ∧ FlS x wh vl cl w')
    (hFa : okb = true → ∀ x, Below w.heap.size w x → Calls Tryz.prog 22 #[.agg #[.int .i64 per, vi, vp, vt]] x fun e w' => ∃ A c, e = .returned (.slice A F.length c) ∧ w'.ownsRow x.heap.size 56 6 (.slice A F.length c) F.length (fctsC F) ∧ Below x.heap.size x w')
    (hby : RdBy w w.heap.size Ab byl) (hnb : byl.length = nb) (hcb : nb ≤ cb) (hb5 : okb = true → nb ≤ 5 ∧ ∀ k, k < nb → 0 ≤ byl.getD k 0 ∧ byl.getD k 0 ≤ 4) (hnw : wh.length = nw) (hn30 : okb = true → nw ≤ 1000) (hcn : okb = true → ∀ c, c ∈ wh → okCnd c) (hF : ∀ f, f ∈ F → okFct f) (hFl : F.length ≤ 900) :
    Calls Tryz.prog 26 #[.agg #[.int .i64 per, vi, vp, vt], .agg #[.int .i64 verb, .slice Ab nb cb, .slice Aw nw cw]] w fun e w' => RunSays okb nb (sumsI verb byl (fun f => wh.all fun c => cndB c f) F) e w' ∧ Below w.heap.size w w' := by
  have HV := Lib.hid hV
  have HFI := Lib.hid hFi
  have HFA := Lib.hid hFa
  have HBY := Lib.hid hby
  have HNB := Lib.hid hnb
  have HB5 := Lib.hid hb5
  have HNW := Lib.hid hnw
  have HCN := Lib.hid hcn
  have HF := Lib.hid hF
  have h1 := (Below.refl w.heap.size w).alloc (Nat.le_refl _) (.cells (#[.int .i64 per, vi, vp, vt] : Array Value) 43)
  have k1 := Blk.new w 43 #[.int .i64 per, vi, vp, vt]
  obtain ⟨wy, hwy⟩ : ∃ wy, w.alloc (.cells (#[.int .i64 per, vi, vp, vt] : Array Value) 43) = wy := ⟨_, rfl⟩
  rw [hwy] at h1 k1
  have h2 := h1.alloc h1.size (.cells (#[.int .i64 verb, .slice Ab nb cb, .slice Aw nw cw] : Array Value) 26)
  have k2 := Blk.new wy 26 #[.int .i64 verb, .slice Ab nb cb, .slice Aw nw cw]
  have k3 := k1.alloc (.cells (#[.int .i64 verb, .slice Ab nb cb, .slice Aw nw cw] : Array Value) 26)
  obtain ⟨wz, hwz⟩ : ∃ wz, wy.alloc (.cells (#[.int .i64 verb, .slice Ab nb cb, .slice Aw nw cw] : Array Value) 26) = wz := ⟨_, rfl⟩
  rw [hwz] at h2 k2 k3
  obtain ⟨X, hX⟩ : ∃ X, wy.heap.size = X := ⟨_, rfl⟩
  rw [hX] at k2
  have HS0 : Hid (QfS w X per vi vp vt verb (.slice Ab nb cb) (.slice Aw nw cw) wz) := ⟨h2, k3.cell 0, k3.cell 1, k3.cell 2, k3.cell 3, k2.cell 0, k2.cell 1, k2.cell 2⟩
  clear hV hFi hFa hby hnb hb5 hnw hcn hF h1 k1 h2 k2 k3
  have r0 := HS0.out.r0
  have r1 := HS0.out.r1
  have r2 := HS0.out.r2
  have r3 := HS0.out.r3
  have q0 := HS0.out.q0
  have q1 := HS0.out.q1
  have q2 := HS0.out.q2
  obtain ⟨l1, l2⟩ := HS0.out.lt
  generalize hl0 : sumsI verb byl (fun f => wh.all fun c => cndB c f) F = LL
  have HLL := Lib.hid hl0
  clear hl0
  go_enter Tryz.func26, Tryz.ntmps26
  go_wp2_with fail
  refine (HV.out _ HS0.out.below).mono ?_
  rintro e w1 ⟨rfl, hb⟩
  have HS := Lib.hid (HS0.out.same hb)
  clear hb HS0 r0 r1 r2 r3 q0 q1 q2 l1 l2 hwz hwy HV
  cases okb with
  | false =>
    go_wp2_with fail
    refine bodyPost_ret (v := .tuple #[.slice none 0 0, .int .i64 1]) ?_ rfl ?_
    · simp [results, Tryz.results26, go_sem]
    · exact ⟨.inl ⟨rfl, rfl⟩, HS.out.below⟩
  | true =>
    have hmm := @run_makeMap Tryz.prog
    have q1 := HS.out.q1
    obtain ⟨l1, l2⟩ := HS.out.lt
    obtain ⟨wm, hwm⟩ : ∃ wm, w1.alloc (.map #[] 0) = wm := ⟨_, rfl⟩
    have hM0 := MapS.made w1
    have HSm := HS.out.same ((Below.refl _ w1).alloc (Nat.le_refl _) (.map #[] 0))
    rw [hwm] at hM0 HSm
    obtain ⟨M, hM⟩ : ∃ M, w1.heap.size = M := ⟨_, rfl⟩
    have hwM : w.heap.size ≤ M := by omega
    have q1m := HSm.q1
    have HSM := Lib.hid (And.intro hM0 HSm)
    clear hM0 HSm
    have hgw := Lib.hid (And.intro hwm hM)
    rw [hM] at HSM
    obtain ⟨l3, l4⟩ := HSM.out.2.lt
    have hmk : (Instr.makeMap 116 none).run Tryz.prog w1 = .ok (.map (some M)) wm := by rw [← hM, ← hwm]; exact hmm _ _
    clear hmm hM hwm
    go_upto_if 23 with fail
    go_cut [6] from 23 to 25 (fun s6 wx => s6 = .map (some M) ∧ MapS wx M (startR byl) ∧ QfS w X per vi vp vt verb (.slice Ab nb cb) (.slice Aw nw cw) wx)
    case first =>
      by_cases h0 : nb = 0
      · subst h0
        have e0 : byl = [] := List.length_eq_zero_iff.1 HNB.out
        obtain ⟨w2, hrun, hg, hM2⟩ := map_first (k := k0) 0 HSM.out.1 okK_k0
        have hq2 := HSM.out.2.step (KeepC.of_map HSM.out.1 hg) (HSM.out.2.below.grown hg HSM.out.2.below.size (fun r e => by injection e with e; omega))
        have HF2 := Lib.hid (And.intro hM2 hq2)
        have E0 := Lib.hid e0
        clear hM2 hq2 hg e0
        unfold k5V k0 at hrun
        go_wp2_with fail
        go_meet
        exact ⟨rfl, by rw [E0.out]; exact HF2.out.1, HF2.out.2⟩
      · have e0 : ((nb : Int) == 0) = false := by simp; exact h0
        have E0 : Hid (byl ≠ []) := fun e => h0 (by rw [← HNB.out, e]; rfl)
        go_wp2_with fail
        go_meet
        refine ⟨rfl, ?_, HSM.out.2⟩
        unfold startR
        rw [if_neg E0.out]
        exact HSM.out.1
    case rest =>
      obtain ⟨rfl, hm, hq⟩ := hcut
      have HM := Lib.hid hm
      have HQ := Lib.hid hq
      have HFI2 := Lib.hid (HFI.out trivial)
      have HFA2 := Lib.hid (HFA.out trivial)
      have hn30' := hn30 trivial
      have HCN2 := Lib.hid (HCN.out trivial)
      have HB52 := Lib.hid (HB5.out trivial)
      clear hm hq HSM hgw HS q1 q1m l1 l2 l3 l4 hmk HFI HFA HCN HB5 hn30
      have q0 := HQ.out.q0
      have q1 := HQ.out.q1
      have q2 := HQ.out.q2
      obtain ⟨l1, l2⟩ := HQ.out.lt
      go_wp2_with fail
      refine (HFI2.out _ HQ.out.below).mono ?_
      rintro e w2 ⟨vl, cl, hcl, rfl, hfs⟩
      have HB2 := Lib.hid hfs.below
      obtain ⟨AL, cL, hfl⟩ := FlR.of_fls hfs (by rw [hcl, HNW.out])
      have HFL := Lib.hid hfl
      have HM2 := Lib.hid (HM.out.below hfs.below HM.out.lt)
      have HQ2 := Lib.hid (HQ.out.same hfs.below)
      obtain ⟨L, hL⟩ : ∃ L, wc.heap.size + 1 = L := ⟨_, rfl⟩
      rw [hL] at HFL ⊢
      clear hfs hfl hcl HM HQ q0 q1 q2 l1 l2 HB2 hL
      have r0 := HQ2.out.r0
      have r1 := HQ2.out.r1
      have r2 := HQ2.out.r2
      have r3 := HQ2.out.r3
      obtain ⟨l1, l2⟩ := HQ2.out.lt
      obtain ⟨n, hn⟩ : ∃ n, F.length = n := ⟨_, rfl⟩
      rw [hn] at HFA2 hFl
      have HFN := Lib.hid hn
      clear hn
      go_wp2_with fail
      refine (HFA2.out _ HQ2.out.below).mono ?_
      rintro e w3 ⟨AF, cF, rfl, ho, hb⟩
      obtain ⟨BFW, hBFW⟩ : ∃ B, w3.heap.size = B := ⟨_, rfl⟩
      have HS : Hid (RnS w X M L BFW verb (.slice Ab nb cb) (.slice Aw nw cw) wh AL cL AF n F (startR byl) w3) :=
        ⟨below_two HQ2.out.below hb, (HQ2.out.same hb).q0, (HQ2.out.same hb).q1, (HQ2.out.same hb).q2, HM2.out.below hb HM2.out.lt, hwM, HFL.out.keep (KeepC.of_below hb), by rw [← hBFW]; exact Reads.of_own ho⟩
      have HFT : Hid (∀ (x : SFact) (y : World), FlR y L wh AL cL → Calls Tryz.prog 90 #[fctV x, .pointer (some ⟨L, 0, none⟩)] y fun e w' => e = .returned (.bool (wh.all fun c => cndB c x)) ∧ Below y.heap.size y w') := fun x y h => filt2_any x wh L cL AL y h HCN2.out (by rw [HNW.out]; exact hn30')
      clear ho hb hBFW HFL HM2 HQ2 r0 r1 r2 r3 l1 l2 HFA2 HFI2
      generalize hpf : (fun f : SFact => wh.all fun c => cndB c f) = pf at *
      have HPF : Hid (∀ x, (wh.all fun c => cndB c x) = pf x) := fun x => by rw [← hpf]
      clear hpf
      go_wp2_with fail
      go_loopw [31] (fun i y => ∃ k : Nat, k ≤ n ∧ i = .int .i64 (k : Int) ∧ RnS w X M L BFW verb (.slice Ab nb cb) (.slice Aw nw cw) wh AL cL AF n F (sumsR verb byl pf (F.take k)) y) (fun i _ => n - (intOf i).toNat)
      case atStart => exact ⟨0, Nat.zero_le _, rfl, HS.out⟩
      case round =>
        obtain ⟨k, hk, rfl, hs⟩ := hrel
        have HR := Lib.hid hs
        clear hs
        by_cases hlk : k < n
        · have k3 : decide ((k : Int) < (n : Int)) = true := by rw [decide_eq_true_eq]; omega
          obtain ⟨ad, rfl, had, hkl, a0, aj⟩ := (HR.out.fct).row_at fctC (fun _ => rfl) (by decide) hlk
          have hmem : F.getD k default ∈ F := by
            have e : F.getD k default = F[k] := by simp [List.getD, hkl]
            rw [e]; exact List.getElem_mem hkl
          have HOKF := Lib.hid (HF.out _ hmem)
          have HST := Lib.hid (sumsR_step (verb := verb) (byl := byl) (p := pf) (F := F) hkl)
          have HSM := Lib.hid (sumsR_small (verb := verb) (byl := byl) (p := pf) (F := F) (fun j hj => (HF.out _ (by
            have e : F.getD j default = F[j] := by simp [List.getD, hj]
            rw [e]; exact List.getElem_mem hj)).2.2.2.2.2) k (by have := HFN.out; omega))
          have a1 := aj 1 (by decide) (by decide)
          have a2 := aj 2 (by decide) (by decide)
          have a3 := aj 3 (by decide) (by decide)
          have a4 := aj 4 (by decide) (by decide)
          have a5 := aj 5 (by decide) (by decide)
          clear aj hmem
          generalize hft : F.getD k default = ft at *
          clear hft
          have HFT2 : Hid (∀ y, FlR y L wh AL cL → Calls Tryz.prog 90 #[fctV ft, .pointer (some ⟨L, 0, none⟩)] y fun e w' => e = .returned (.bool (pf ft)) ∧ Below y.heap.size y w') := fun y h => by rw [← HPF.out]; exact HFT.out ft y h
          have HFLD : Hid (∀ (x : Int) y, 0 ≤ x → x ≤ 4 → Calls Tryz.prog 60 #[fctV ft, .int .i64 x] y fun e w' => e = .returned (.int .i64 (fldF ft x)) ∧ Below y.heap.size y w') := fun x y h0 h4 => field_any ft x y h0 h4
          generalize hlk2 : sumsR verb byl pf (F.take k) = lk at *
          generalize hlk3 : sumsR verb byl pf (F.take (k + 1)) = lk1 at *
          have HLK3 := Lib.hid hlk3
          clear hlk2 hlk3
          generalize hpv : pf ft = pv at *
          clear hpv
          obtain ⟨FA, hFA⟩ : ∃ FA : Array Value, (#[.int .i64 ft.acc, .int .i64 ft.ent, .int .i64 ft.par, .int .i64 ft.kind, .int .i64 ft.dat, .int .i64 ft.amt] : Array Value) = FA := ⟨_, rfl⟩
          have HFA3 := Lib.hid hFA
          have hbf := (Below.refl wr.heap.size wr).alloc (Nat.le_refl _) (.cells FA 56)
          have HRf := Lib.hid (HR.out.same hbf)
          have HBF := Lib.hid (Blk.new wr 56 FA)
          obtain ⟨wf, hwf⟩ : ∃ wf, wr.alloc (.cells FA 56) = wf := ⟨_, rfl⟩
          rw [hwf] at HRf HBF
          rw [← hFA] at hwf
          obtain ⟨FB, hFB⟩ : ∃ FB, wr.heap.size = FB := ⟨_, rfl⟩
          rw [hFB] at HBF
          obtain ⟨acc, ent, par, kind, dat, amt⟩ := ft
          replace a0 : wr.cell? (ad.add (k * 6)) = some (.int .i64 acc) := a0
          replace a1 : wr.cell? ⟨(ad.add (k * 6)).block, (ad.add (k * 6)).off + 1, none⟩ = some (.int .i64 ent) := a1
          replace a2 : wr.cell? ⟨(ad.add (k * 6)).block, (ad.add (k * 6)).off + 2, none⟩ = some (.int .i64 par) := a2
          replace a3 : wr.cell? ⟨(ad.add (k * 6)).block, (ad.add (k * 6)).off + 3, none⟩ = some (.int .i64 kind) := a3
          replace a4 : wr.cell? ⟨(ad.add (k * 6)).block, (ad.add (k * 6)).off + 4, none⟩ = some (.int .i64 dat) := a4
          replace a5 : wr.cell? ⟨(ad.add (k * 6)).block, (ad.add (k * 6)).off + 5, none⟩ = some (.int .i64 amt) := a5
          obtain ⟨g0, g1⟩ := HRf.out.lt
          simp only [] at hwf
          clear hbf hFA
          have HBF2 : Hid (Blk wf FB 56 #[.int .i64 acc, .int .i64 ent, .int .i64 par, .int .i64 kind, .int .i64 dat, .int .i64 amt]) := by
            have h := HBF.out
            rw [← HFA3.out] at h
            exact h
          have f0 := HBF2.out.cell 0
          have f1 := HBF2.out.cell 1
          have f2 := HBF2.out.cell 2
          have f3 := HBF2.out.cell 3
          have f4 := HBF2.out.cell 4
          have f5 := HBF2.out.cell 5
          simp only [List.getElem?_toArray, List.getElem?_cons_zero, List.getElem?_cons_succ] at f0 f1 f2 f3 f4 f5
          go_wp2_with fail
          refine (HFT2.out _ HRf.out.fl).mono ?_
          rintro e w4 ⟨rfl, hb⟩
          have HR4 := Lib.hid (HRf.out.same hb)
          have HB4 := Lib.hid (HBF2.out.below hb HBF2.out.lt)
          clear hb HRf HBF HBF2 f0 f1 f2 f3 f4 f5 g0 g1 a0 a1 a2 a3 a4 a5 hwf
          have f0 := HB4.out.cell 0
          have f1 := HB4.out.cell 1
          have f2 := HB4.out.cell 2
          have f3 := HB4.out.cell 3
          have f4 := HB4.out.cell 4
          have f5 := HB4.out.cell 5
          simp only [List.getElem?_toArray, List.getElem?_cons_zero, List.getElem?_cons_succ] at f0 f1 f2 f3 f4 f5
          obtain ⟨g0, g1⟩ := HR4.out.lt
          cases pv with
          | false =>
            go_wp2_with fail
            go_roundw
            case rel => exact ⟨k + 1, by omega, by go_num, by rw [HLK3.out, HST.out, if_neg (by decide)]; exact HR4.out⟩
            case measure => simp [intOf]; omega
          | true =>
            have HK4 : Hid (KyS w w4 w4.heap.size FB (kArr byl ⟨acc, ent, par, kind, dat, amt⟩ 0) #[.int .i64 acc, .int .i64 ent, .int .i64 par, .int .i64 kind, .int .i64 dat, .int .i64 amt] (w4.alloc (.cells #[.int .i64 0, .int .i64 0, .int .i64 0, .int .i64 0, .int .i64 0] 117))) :=
              ⟨(Below.refl _ _).alloc (Nat.le_refl _) _, Blk.new _ _ _, HB4.out.alloc _⟩
            obtain ⟨wk, hwk⟩ : ∃ wk, w4.alloc (.cells #[.int .i64 0, .int .i64 0, .int .i64 0, .int .i64 0, .int .i64 0] 117) = wk := ⟨_, rfl⟩
            rw [hwk] at HK4
            obtain ⟨KB, hKB⟩ : ∃ KB, w4.heap.size = KB := ⟨_, rfl⟩
            have hKB2 : w4.heap.size ≤ KB := by omega
            rw [hKB] at HK4
            have HRk := HR4.out.same HK4.out.below
            have q1 := HRk.q1
            clear HRk f0 f1 f2 f3 f4 f5
            go_wp2_with fail
            go_loopw [42] (fun i y => ∃ j : Nat, j ≤ nb ∧ i = .int .i64 (j : Int) ∧ KyS w w4 KB FB (kArr byl ⟨acc, ent, par, kind, dat, amt⟩ j) #[.int .i64 acc, .int .i64 ent, .int .i64 par, .int .i64 kind, .int .i64 dat, .int .i64 amt] y) (fun i _ => nb - (intOf i).toNat)
            case atStart => exact ⟨0, Nat.zero_le _, rfl, HK4.out⟩
            case round =>
              obtain ⟨j, hj, rfl, hks⟩ := hrel
              have HKS := Lib.hid hks
              clear hks
              have f0 := HKS.out.fb.cell 0
              have f1 := HKS.out.fb.cell 1
              have f2 := HKS.out.fb.cell 2
              have f3 := HKS.out.fb.cell 3
              have f4 := HKS.out.fb.cell 4
              have f5 := HKS.out.fb.cell 5
              simp only [List.getElem?_toArray, List.getElem?_cons_zero, List.getElem?_cons_succ] at f0 f1 f2 f3 f4 f5
              obtain ⟨nb5, hfr⟩ := HB52.out
              by_cases hlj : j < nb
              · have k4 : decide ((j : Int) < (nb : Int)) = true := by rw [decide_eq_true_eq]; omega
                obtain ⟨hj0, hj4⟩ := hfr j hlj
                obtain ⟨g, o, rfl, hg, hc⟩ := HBY.out (by rw [HNB.out]; omega)
                have hcj := ((below_two HR4.out.below HKS.out.below).cell (World.block_lt_of_cell? _ _ (hc j (by rw [HNB.out]; exact hlj)))).trans (hc j (by rw [HNB.out]; exact hlj))
                have hj5 : j < 5 := by omega
                clear hc
                generalize hby : byl.getD j 0 = bj at *
                have HBJ := Lib.hid hby
                clear hby hfr
                go_wp2_with fail
                refine (HFLD.out _ _ hj0 hj4).mono ?_
                rintro e w5 ⟨rfl, hb⟩
                have HKS5 := Lib.hid (HKS.out.same hb)
                clear hb hcj f0 f1 f2 f3 f4 f5
                have hkc := HKS5.out.kb.cell j
                rw [kArr_get _ _ _ hj5] at hkc
                have hkf := HKS5.out.kb.frozen j
                go_wp2_with fail
                go_roundw
                case rel =>
                  refine ⟨j + 1, by omega, by go_num, ?_⟩
                  have h := HKS5.out.set hKB2 j (.int .i64 (fldF ⟨acc, ent, par, kind, dat, amt⟩ bj))
                  rw [← HBJ.out, kArr_set _ _ hj5] at h
                  rw [← HBJ.out]
                  exact h
                case measure => simp [intOf]; omega
              · have k4 : decide ((j : Int) < (nb : Int)) = false := by rw [decide_eq_false_iff_not]; omega
                obtain rfl : j = nb := by omega
                have HRe := Lib.hid (HR4.out.same HKS.out.below)
                have hkb : Blk wr KB 117 #[.int .i64 (keyF byl ⟨acc, ent, par, kind, dat, amt⟩).a, .int .i64 (keyF byl ⟨acc, ent, par, kind, dat, amt⟩).b, .int .i64 (keyF byl ⟨acc, ent, par, kind, dat, amt⟩).c, .int .i64 (keyF byl ⟨acc, ent, par, kind, dat, amt⟩).d, .int .i64 (keyF byl ⟨acc, ent, par, kind, dat, amt⟩).e] := by
                  have h := HKS.out.kb
                  rw [← HNB.out, kArr_end] at h
                  exact h
                have hkok : okK (keyF byl ⟨acc, ent, par, kind, dat, amt⟩) := key_ok HOKF.out byl
                have hsmall := HSM.out (keyF byl ⟨acc, ent, par, kind, dat, amt⟩)
                have hamt : smallA amt := HOKF.out.2.2.2.2.2
                have HSTEP : Hid (lk1 = addR verb byl lk ⟨acc, ent, par, kind, dat, amt⟩) := by have h := HST.out; first | (rw [if_pos rfl] at h; exact h) | (rw [if_pos trivial] at h; exact h)
                generalize hkey : keyF byl ⟨acc, ent, par, kind, dat, amt⟩ = key at *
                have HKEY := Lib.hid hkey
                clear hkey HKS HR4 HB4 HK4 HSM HST HOKF HFT2 HFLD f0 f1 f2 f3 f4 q1 hwk hKB hKB2 g0 g1 hfr
                have c0 := hkb.cell 0
                have c1 := hkb.cell 1
                have c2 := hkb.cell 2
                have c3 := hkb.cell 3
                have c4 := hkb.cell 4
                simp only [List.getElem?_toArray, List.getElem?_cons_zero, List.getElem?_cons_succ] at c0 c1 c2 c3 c4
                clear hkb
                have q0 := HRe.out.q0
                obtain ⟨g0, g1⟩ := HRe.out.lt
                by_cases hvb : verb = 1
                · subst hvb
                  -- REGION 18
                  have hmp : MapS wr.drew M lk := HRe.out.map.kept rfl
                  have hsd : (fun y => y.cell? ⟨KB, 0, none⟩ = some (.int .i64 key.a) ∧ y.cell? ⟨KB, 1, none⟩ = some (.int .i64 key.b) ∧ y.cell? ⟨KB, 2, none⟩ = some (.int .i64 key.c) ∧ y.cell? ⟨KB, 3, none⟩ = some (.int .i64 key.d) ∧ y.cell? ⟨KB, 4, none⟩ = some (.int .i64 key.e) ∧ y.cell? ⟨FB, 5, none⟩ = some (.int .i64 amt)) wr.drew := ⟨c0, c1, c2, c3, c4, f5⟩
                  have hlu := map_lookup hmp hkok
                  obtain ⟨st, w1, hent, hgr1, ⟨l1, hm1, hl1⟩, hsto⟩ := map_entry hmp hkok
                  have hkc1 := KeepC.of_map hmp hgr1
                  have hlu1 := map_lookup hm1 hkok
                  rw [hl1] at hlu1
                  obtain ⟨w3, hes, hgr3, hm3⟩ := hsto w1 (getM lk key + 1) rfl
                  have hkc3 := KeepC.of_map hm1 hgr3
                  have HFIN : Hid (RnS w X M L BFW 1 (.slice Ab j cb) (.slice Aw nw cw) wh AL cL (some ad) n F lk1 w3) := by
                    have hb0 : Below w.heap.size w wr.drew := HRe.out.below.drew
                    have hb1 := hb0.grown hgr1 hb0.size (fun r e => by injection e with e; omega)
                    have hb3 := hb1.grown hgr3 hb1.size (fun r e => by injection e with e; omega)
                    have hS0 := HRe.out.step (y := w3) (l' := lk1) (KeepC.trans (show KeepC wr w1 from ⟨hgr1.size, fun a v hc => hkc1.2 a v hc⟩) hkc3) hb3 ?_
                    · exact hS0
                    · rw [HSTEP.out]; unfold addR addF; rw [HKEY.out, if_pos rfl]; exact hm3
                  clear hsto hm1 hl1 hm3 hgr1 hgr3 hmp l1
                  unfold k5V at hlu hent hlu1
                  unfold goInt at hent hes
                  have hwr : IntKind.i64.wrap (getM lk key + 1) = getM lk key + 1 := by (have h1 := hsmall.1; have h2 := hsmall.2; have h3 := hamt.1; have h4 := hamt.2; exact Go.IntWalk.i64_in _ ⟨by omega, by omega⟩)
                  generalize getM lk key = s at *
                  go_upto_region 18 with fail
                  refine wp_region_held_drew (S := fun y => y.cell? ⟨KB, 0, none⟩ = some (.int .i64 key.a) ∧ y.cell? ⟨KB, 1, none⟩ = some (.int .i64 key.b) ∧ y.cell? ⟨KB, 2, none⟩ = some (.int .i64 key.c) ∧ y.cell? ⟨KB, 3, none⟩ = some (.int .i64 key.d) ∧ y.cell? ⟨KB, 4, none⟩ = some (.int .i64 key.e) ∧ y.cell? ⟨FB, 5, none⟩ = some (.int .i64 amt)) (by kernel_rfl) hsd (fun hHeld => ?_)
                  refine wpAnyH_take (i := 0) (v := ?vr180) rfl (by kernel_rfl) (by kernel_rfl) (by kernel_rfl) (fun _ _ _ h => h) (Or.inl ⟨by rfl, ?hyr180⟩) (by assumption) ?restr180
                  case hyr180 => (intro w_ hSw; (try dsimp only at hSw); obtain ⟨c0_, c1_, c2_, c3_, c4_, f5_⟩ := hSw; go_simp; (try with_reducible rfl))
                  (try simp only [Act.put, List.setIfInBounds_toArray, List.set_cons_zero, List.set_cons_succ, List.getElem_toArray, List.getElem_cons_zero, List.getElem_cons_succ])
                  refine wpAnyH_take (i := 1) (v := ?vr181) rfl (by kernel_rfl) (by kernel_rfl) (by kernel_rfl) (fun _ _ _ h => h) (Or.inl ⟨by rfl, ?hyr181⟩) (by assumption) ?restr181
                  case hyr181 => (intro w_ hSw; (try dsimp only at hSw); obtain ⟨c0_, c1_, c2_, c3_, c4_, f5_⟩ := hSw; go_simp; (try with_reducible rfl))
                  (try simp only [Act.put, List.setIfInBounds_toArray, List.set_cons_zero, List.set_cons_succ, List.getElem_toArray, List.getElem_cons_zero, List.getElem_cons_succ])
                  refine wpAnyH_ready (rs := [2, 4]) (by kernel_rfl) (by simp) ?_
                  refine (AllReadyH.cons rfl (fun K hK => ?_) (AllReadyH.cons rfl (fun K hK => ?_) AllReadyH.nil))
                  · go_simp
                    refine hK.out _ _ ?hSr18a2 (fun hHeldr18a2 => ?_)
                    case hSr18a2 => exact hHeld
                    clear hK K
                    (try simp only [Act.put, List.setIfInBounds_toArray, List.set_cons_zero, List.set_cons_succ, List.getElem_toArray, List.getElem_cons_zero, List.getElem_cons_succ])
                    refine wpAnyH_take (i := 3) (v := ?vr18a3) rfl (by kernel_rfl) (by kernel_rfl) (by kernel_rfl) (fun _ _ _ h => h) (Or.inl ⟨by rfl, ?hyr18a3⟩) (by assumption) ?restr18a3
                    case hyr18a3 => (intro w_ hSw; (try dsimp only at hSw); obtain ⟨c0_, c1_, c2_, c3_, c4_, f5_⟩ := hSw; go_simp; (try with_reducible rfl))
                    (try simp only [Act.put, List.setIfInBounds_toArray, List.set_cons_zero, List.set_cons_succ, List.getElem_toArray, List.getElem_cons_zero, List.getElem_cons_succ])
                    refine wpAnyH_ready (rs := [4]) (by kernel_rfl) (by simp) ?_
                    refine (AllReadyH.cons rfl (fun K hK => ?_) AllReadyH.nil)
                    go_simp
                    refine hK.out _ _ ?hSr18a4 (fun hHeldr18a4 => ?_)
                    case hSr18a4 => (obtain ⟨s0, s1, s2, s3, s4, s5⟩ := hHeld; exact ⟨hkc1.2 _ _ s0, hkc1.2 _ _ s1, hkc1.2 _ _ s2, hkc1.2 _ _ s3, hkc1.2 _ _ s4, hkc1.2 _ _ s5⟩)
                    clear hK K
                    (try simp only [Act.put, List.setIfInBounds_toArray, List.set_cons_zero, List.set_cons_succ, List.getElem_toArray, List.getElem_cons_zero, List.getElem_cons_succ])
                    refine wpAnyH_take (i := 5) (v := ?vr18a5) rfl (by kernel_rfl) (by kernel_rfl) (by kernel_rfl) (fun _ _ _ h => h) (Or.inl ⟨by rfl, ?hyr18a5⟩) (by assumption) ?restr18a5
                    case hyr18a5 => (intro w_ hSw; (try dsimp only at hSw); obtain ⟨c0_, c1_, c2_, c3_, c4_, f5_⟩ := hSw; go_simp; (try with_reducible rfl))
                    (try simp only [Act.put, List.setIfInBounds_toArray, List.set_cons_zero, List.set_cons_succ, List.getElem_toArray, List.getElem_cons_zero, List.getElem_cons_succ])
                    refine wpAnyH_ready (rs := [6]) (by kernel_rfl) (by simp) ?_
                    refine (AllReadyH.cons rfl (fun K hK => ?_) AllReadyH.nil)
                    go_simp
                    refine hK.out _ _ ?hSfr18a (fun hHeldf => ?_)
                    case hSfr18a => (obtain ⟨s0, s1, s2, s3, s4, s5⟩ := hHeld; exact ⟨hkc3.2 _ _ (hkc1.2 _ _ s0), hkc3.2 _ _ (hkc1.2 _ _ s1), hkc3.2 _ _ (hkc1.2 _ _ s2), hkc3.2 _ _ (hkc1.2 _ _ s3), hkc3.2 _ _ (hkc1.2 _ _ s4), hkc3.2 _ _ (hkc1.2 _ _ s5)⟩)
                    clear hK K
                    (try simp only [Act.put, List.setIfInBounds_toArray, List.set_cons_zero, List.set_cons_succ, List.getElem_toArray, List.getElem_cons_zero, List.getElem_cons_succ])
                    refine wpAnyH_done (by kernel_rfl) ?_ _
                    go_wp2_with fail
                    go_roundw
                    case rel => exact ⟨k + 1, by omega, by go_num, by rw [HLK3.out]; exact HFIN.out⟩
                    case measure => simp [intOf]; omega
                  · go_simp
                    refine hK.out _ _ ?hSr18bB4 (fun hHeldr18bB4 => ?_)
                    case hSr18bB4 => (obtain ⟨s0, s1, s2, s3, s4, s5⟩ := hHeld; exact ⟨hkc1.2 _ _ s0, hkc1.2 _ _ s1, hkc1.2 _ _ s2, hkc1.2 _ _ s3, hkc1.2 _ _ s4, hkc1.2 _ _ s5⟩)
                    clear hK K
                    (try simp only [Act.put, List.setIfInBounds_toArray, List.set_cons_zero, List.set_cons_succ, List.getElem_toArray, List.getElem_cons_zero, List.getElem_cons_succ])
                    refine wpAnyH_take (i := 5) (v := ?vr18b5) rfl (by kernel_rfl) (by kernel_rfl) (by kernel_rfl) (fun _ _ _ h => h) (Or.inl ⟨by rfl, ?hyr18b5⟩) (by assumption) ?restr18b5
                    case hyr18b5 => (intro w_ hSw; (try dsimp only at hSw); obtain ⟨c0_, c1_, c2_, c3_, c4_, f5_⟩ := hSw; go_simp; (try with_reducible rfl))
                    (try simp only [Act.put, List.setIfInBounds_toArray, List.set_cons_zero, List.set_cons_succ, List.getElem_toArray, List.getElem_cons_zero, List.getElem_cons_succ])
                    refine wpAnyH_ready (rs := [2]) (by kernel_rfl) (by simp) ?_
                    refine (AllReadyH.cons rfl (fun K hK => ?_) AllReadyH.nil)
                    go_simp
                    refine hK.out _ _ ?hSr18bB2 (fun hHeldr18bB2 => ?_)
                    case hSr18bB2 => (obtain ⟨s0, s1, s2, s3, s4, s5⟩ := hHeld; exact ⟨hkc1.2 _ _ s0, hkc1.2 _ _ s1, hkc1.2 _ _ s2, hkc1.2 _ _ s3, hkc1.2 _ _ s4, hkc1.2 _ _ s5⟩)
                    clear hK K
                    (try simp only [Act.put, List.setIfInBounds_toArray, List.set_cons_zero, List.set_cons_succ, List.getElem_toArray, List.getElem_cons_zero, List.getElem_cons_succ])
                    refine wpAnyH_take (i := 3) (v := ?vr18b3) rfl (by kernel_rfl) (by kernel_rfl) (by kernel_rfl) (fun _ _ _ h => h) (Or.inl ⟨by rfl, ?hyr18b3⟩) (by assumption) ?restr18b3
                    case hyr18b3 => (intro w_ hSw; (try dsimp only at hSw); obtain ⟨c0_, c1_, c2_, c3_, c4_, f5_⟩ := hSw; go_simp; (try with_reducible rfl))
                    (try simp only [Act.put, List.setIfInBounds_toArray, List.set_cons_zero, List.set_cons_succ, List.getElem_toArray, List.getElem_cons_zero, List.getElem_cons_succ])
                    refine wpAnyH_ready (rs := [6]) (by kernel_rfl) (by simp) ?_
                    refine (AllReadyH.cons rfl (fun K hK => ?_) AllReadyH.nil)
                    go_simp
                    refine hK.out _ _ ?hSfr18b (fun hHeldf => ?_)
                    case hSfr18b => (obtain ⟨s0, s1, s2, s3, s4, s5⟩ := hHeld; exact ⟨hkc3.2 _ _ (hkc1.2 _ _ s0), hkc3.2 _ _ (hkc1.2 _ _ s1), hkc3.2 _ _ (hkc1.2 _ _ s2), hkc3.2 _ _ (hkc1.2 _ _ s3), hkc3.2 _ _ (hkc1.2 _ _ s4), hkc3.2 _ _ (hkc1.2 _ _ s5)⟩)
                    clear hK K
                    (try simp only [Act.put, List.setIfInBounds_toArray, List.set_cons_zero, List.set_cons_succ, List.getElem_toArray, List.getElem_cons_zero, List.getElem_cons_succ])
                    refine wpAnyH_done (by kernel_rfl) ?_ _
                    go_wp2_with fail
                    go_roundw
                    case rel => exact ⟨k + 1, by omega, by go_num, by rw [HLK3.out]; exact HFIN.out⟩
                    case measure => simp [intOf]; omega
                  -- END 18
                · have k5 : (verb == 1) = false := by simp; exact hvb
                  -- REGION 19
                  have hmp : MapS wr.drew M lk := HRe.out.map.kept rfl
                  have hsd : (fun y => y.cell? ⟨KB, 0, none⟩ = some (.int .i64 key.a) ∧ y.cell? ⟨KB, 1, none⟩ = some (.int .i64 key.b) ∧ y.cell? ⟨KB, 2, none⟩ = some (.int .i64 key.c) ∧ y.cell? ⟨KB, 3, none⟩ = some (.int .i64 key.d) ∧ y.cell? ⟨KB, 4, none⟩ = some (.int .i64 key.e) ∧ y.cell? ⟨FB, 5, none⟩ = some (.int .i64 amt)) wr.drew := ⟨c0, c1, c2, c3, c4, f5⟩
                  have hlu := map_lookup hmp hkok
                  obtain ⟨st, w1, hent, hgr1, ⟨l1, hm1, hl1⟩, hsto⟩ := map_entry hmp hkok
                  have hkc1 := KeepC.of_map hmp hgr1
                  have hlu1 := map_lookup hm1 hkok
                  rw [hl1] at hlu1
                  obtain ⟨w3, hes, hgr3, hm3⟩ := hsto w1 (getM lk key + amt) rfl
                  have hkc3 := KeepC.of_map hm1 hgr3
                  have HFIN : Hid (RnS w X M L BFW verb (.slice Ab j cb) (.slice Aw nw cw) wh AL cL (some ad) n F lk1 w3) := by
                    have hb0 : Below w.heap.size w wr.drew := HRe.out.below.drew
                    have hb1 := hb0.grown hgr1 hb0.size (fun r e => by injection e with e; omega)
                    have hb3 := hb1.grown hgr3 hb1.size (fun r e => by injection e with e; omega)
                    have hS0 := HRe.out.step (y := w3) (l' := lk1) (KeepC.trans (show KeepC wr w1 from ⟨hgr1.size, fun a v hc => hkc1.2 a v hc⟩) hkc3) hb3 ?_
                    · exact hS0
                    · rw [HSTEP.out]; unfold addR addF; rw [HKEY.out, if_neg hvb]; exact hm3
                  clear hsto hm1 hl1 hm3 hgr1 hgr3 hmp l1
                  unfold k5V at hlu hent hlu1
                  unfold goInt at hent hes
                  have hwr : IntKind.i64.wrap (getM lk key + amt) = getM lk key + amt := by (have h1 := hsmall.1; have h2 := hsmall.2; have h3 := hamt.1; have h4 := hamt.2; exact Go.IntWalk.i64_in _ ⟨by omega, by omega⟩)
                  generalize getM lk key = s at *
                  go_upto_region 19 with fail
                  refine wp_region_held_drew (S := fun y => y.cell? ⟨KB, 0, none⟩ = some (.int .i64 key.a) ∧ y.cell? ⟨KB, 1, none⟩ = some (.int .i64 key.b) ∧ y.cell? ⟨KB, 2, none⟩ = some (.int .i64 key.c) ∧ y.cell? ⟨KB, 3, none⟩ = some (.int .i64 key.d) ∧ y.cell? ⟨KB, 4, none⟩ = some (.int .i64 key.e) ∧ y.cell? ⟨FB, 5, none⟩ = some (.int .i64 amt)) (by kernel_rfl) hsd (fun hHeld => ?_)
                  refine wpAnyH_take (i := 0) (v := ?vr190) rfl (by kernel_rfl) (by kernel_rfl) (by kernel_rfl) (fun _ _ _ h => h) (Or.inl ⟨by rfl, ?hyr190⟩) (by assumption) ?restr190
                  case hyr190 => (intro w_ hSw; (try dsimp only at hSw); obtain ⟨c0_, c1_, c2_, c3_, c4_, f5_⟩ := hSw; go_simp; (try with_reducible rfl))
                  (try simp only [Act.put, List.setIfInBounds_toArray, List.set_cons_zero, List.set_cons_succ, List.getElem_toArray, List.getElem_cons_zero, List.getElem_cons_succ])
                  refine wpAnyH_take (i := 1) (v := ?vr191) rfl (by kernel_rfl) (by kernel_rfl) (by kernel_rfl) (fun _ _ _ h => h) (Or.inl ⟨by rfl, ?hyr191⟩) (by assumption) ?restr191
                  case hyr191 => (intro w_ hSw; (try dsimp only at hSw); obtain ⟨c0_, c1_, c2_, c3_, c4_, f5_⟩ := hSw; go_simp; (try with_reducible rfl))
                  (try simp only [Act.put, List.setIfInBounds_toArray, List.set_cons_zero, List.set_cons_succ, List.getElem_toArray, List.getElem_cons_zero, List.getElem_cons_succ])
                  refine wpAnyH_take (i := 3) (v := ?vr193) rfl (by kernel_rfl) (by kernel_rfl) (by kernel_rfl) (fun _ _ _ h => h) (Or.inl ⟨by rfl, ?hyr193⟩) (by assumption) ?restr193
                  case hyr193 => (intro w_ hSw; (try dsimp only at hSw); obtain ⟨c0_, c1_, c2_, c3_, c4_, f5_⟩ := hSw; go_simp; (try with_reducible rfl))
                  (try simp only [Act.put, List.setIfInBounds_toArray, List.set_cons_zero, List.set_cons_succ, List.getElem_toArray, List.getElem_cons_zero, List.getElem_cons_succ])
                  refine wpAnyH_take (i := 4) (v := ?vr194) rfl (by kernel_rfl) (by kernel_rfl) (by kernel_rfl) (fun _ _ _ h => h) (Or.inl ⟨by rfl, ?hyr194⟩) (by assumption) ?restr194
                  case hyr194 => (intro w_ hSw; (try dsimp only at hSw); obtain ⟨c0_, c1_, c2_, c3_, c4_, f5_⟩ := hSw; go_simp; (try with_reducible rfl))
                  (try simp only [Act.put, List.setIfInBounds_toArray, List.set_cons_zero, List.set_cons_succ, List.getElem_toArray, List.getElem_cons_zero, List.getElem_cons_succ])
                  refine wpAnyH_ready (rs := [2, 6]) (by kernel_rfl) (by simp) ?_
                  refine (AllReadyH.cons rfl (fun K hK => ?_) (AllReadyH.cons rfl (fun K hK => ?_) AllReadyH.nil))
                  · go_simp
                    refine hK.out _ _ ?hSr19a2 (fun hHeldr19a2 => ?_)
                    case hSr19a2 => exact hHeld
                    clear hK K
                    (try simp only [Act.put, List.setIfInBounds_toArray, List.set_cons_zero, List.set_cons_succ, List.getElem_toArray, List.getElem_cons_zero, List.getElem_cons_succ])
                    refine wpAnyH_take (i := 5) (v := ?vr19a5) rfl (by kernel_rfl) (by kernel_rfl) (by kernel_rfl) (fun _ _ _ h => h) (Or.inl ⟨by rfl, ?hyr19a5⟩) (by assumption) ?restr19a5
                    case hyr19a5 => (intro w_ hSw; (try dsimp only at hSw); obtain ⟨c0_, c1_, c2_, c3_, c4_, f5_⟩ := hSw; go_simp; (try with_reducible rfl))
                    (try simp only [Act.put, List.setIfInBounds_toArray, List.set_cons_zero, List.set_cons_succ, List.getElem_toArray, List.getElem_cons_zero, List.getElem_cons_succ])
                    refine wpAnyH_ready (rs := [6]) (by kernel_rfl) (by simp) ?_
                    refine (AllReadyH.cons rfl (fun K hK => ?_) AllReadyH.nil)
                    go_simp
                    refine hK.out _ _ ?hSr19a4 (fun hHeldr19a4 => ?_)
                    case hSr19a4 => (obtain ⟨s0, s1, s2, s3, s4, s5⟩ := hHeld; exact ⟨hkc1.2 _ _ s0, hkc1.2 _ _ s1, hkc1.2 _ _ s2, hkc1.2 _ _ s3, hkc1.2 _ _ s4, hkc1.2 _ _ s5⟩)
                    clear hK K
                    (try simp only [Act.put, List.setIfInBounds_toArray, List.set_cons_zero, List.set_cons_succ, List.getElem_toArray, List.getElem_cons_zero, List.getElem_cons_succ])
                    refine wpAnyH_take (i := 7) (v := ?vr19a7) rfl (by kernel_rfl) (by kernel_rfl) (by kernel_rfl) (fun _ _ _ h => h) (Or.inl ⟨by rfl, ?hyr19a7⟩) (by assumption) ?restr19a7
                    case hyr19a7 => (intro w_ hSw; (try dsimp only at hSw); obtain ⟨c0_, c1_, c2_, c3_, c4_, f5_⟩ := hSw; go_simp; (try with_reducible rfl))
                    (try simp only [Act.put, List.setIfInBounds_toArray, List.set_cons_zero, List.set_cons_succ, List.getElem_toArray, List.getElem_cons_zero, List.getElem_cons_succ])
                    refine wpAnyH_ready (rs := [8]) (by kernel_rfl) (by simp) ?_
                    refine (AllReadyH.cons rfl (fun K hK => ?_) AllReadyH.nil)
                    go_simp
                    refine hK.out _ _ ?hSfr19a (fun hHeldf => ?_)
                    case hSfr19a => (obtain ⟨s0, s1, s2, s3, s4, s5⟩ := hHeld; exact ⟨hkc3.2 _ _ (hkc1.2 _ _ s0), hkc3.2 _ _ (hkc1.2 _ _ s1), hkc3.2 _ _ (hkc1.2 _ _ s2), hkc3.2 _ _ (hkc1.2 _ _ s3), hkc3.2 _ _ (hkc1.2 _ _ s4), hkc3.2 _ _ (hkc1.2 _ _ s5)⟩)
                    clear hK K
                    (try simp only [Act.put, List.setIfInBounds_toArray, List.set_cons_zero, List.set_cons_succ, List.getElem_toArray, List.getElem_cons_zero, List.getElem_cons_succ])
                    refine wpAnyH_done (by kernel_rfl) ?_ _
                    go_wp2_with fail
                    go_roundw
                    case rel => exact ⟨k + 1, by omega, by go_num, by rw [HLK3.out]; exact HFIN.out⟩
                    case measure => simp [intOf]; omega
                  · go_simp
                    refine hK.out _ _ ?hSr19bB4 (fun hHeldr19bB4 => ?_)
                    case hSr19bB4 => (obtain ⟨s0, s1, s2, s3, s4, s5⟩ := hHeld; exact ⟨hkc1.2 _ _ s0, hkc1.2 _ _ s1, hkc1.2 _ _ s2, hkc1.2 _ _ s3, hkc1.2 _ _ s4, hkc1.2 _ _ s5⟩)
                    clear hK K
                    (try simp only [Act.put, List.setIfInBounds_toArray, List.set_cons_zero, List.set_cons_succ, List.getElem_toArray, List.getElem_cons_zero, List.getElem_cons_succ])
                    refine wpAnyH_take (i := 7) (v := ?vr19b7) rfl (by kernel_rfl) (by kernel_rfl) (by kernel_rfl) (fun _ _ _ h => h) (Or.inl ⟨by rfl, ?hyr19b7⟩) (by assumption) ?restr19b7
                    case hyr19b7 => (intro w_ hSw; (try dsimp only at hSw); obtain ⟨c0_, c1_, c2_, c3_, c4_, f5_⟩ := hSw; go_simp; (try with_reducible rfl))
                    (try simp only [Act.put, List.setIfInBounds_toArray, List.set_cons_zero, List.set_cons_succ, List.getElem_toArray, List.getElem_cons_zero, List.getElem_cons_succ])
                    refine wpAnyH_ready (rs := [2]) (by kernel_rfl) (by simp) ?_
                    refine (AllReadyH.cons rfl (fun K hK => ?_) AllReadyH.nil)
                    go_simp
                    refine hK.out _ _ ?hSr19bB2 (fun hHeldr19bB2 => ?_)
                    case hSr19bB2 => (obtain ⟨s0, s1, s2, s3, s4, s5⟩ := hHeld; exact ⟨hkc1.2 _ _ s0, hkc1.2 _ _ s1, hkc1.2 _ _ s2, hkc1.2 _ _ s3, hkc1.2 _ _ s4, hkc1.2 _ _ s5⟩)
                    clear hK K
                    (try simp only [Act.put, List.setIfInBounds_toArray, List.set_cons_zero, List.set_cons_succ, List.getElem_toArray, List.getElem_cons_zero, List.getElem_cons_succ])
                    refine wpAnyH_take (i := 5) (v := ?vr19b5) rfl (by kernel_rfl) (by kernel_rfl) (by kernel_rfl) (fun _ _ _ h => h) (Or.inl ⟨by rfl, ?hyr19b5⟩) (by assumption) ?restr19b5
                    case hyr19b5 => (intro w_ hSw; (try dsimp only at hSw); obtain ⟨c0_, c1_, c2_, c3_, c4_, f5_⟩ := hSw; go_simp; (try with_reducible rfl))
                    (try simp only [Act.put, List.setIfInBounds_toArray, List.set_cons_zero, List.set_cons_succ, List.getElem_toArray, List.getElem_cons_zero, List.getElem_cons_succ])
                    refine wpAnyH_ready (rs := [8]) (by kernel_rfl) (by simp) ?_
                    refine (AllReadyH.cons rfl (fun K hK => ?_) AllReadyH.nil)
                    go_simp
                    refine hK.out _ _ ?hSfr19b (fun hHeldf => ?_)
                    case hSfr19b => (obtain ⟨s0, s1, s2, s3, s4, s5⟩ := hHeld; exact ⟨hkc3.2 _ _ (hkc1.2 _ _ s0), hkc3.2 _ _ (hkc1.2 _ _ s1), hkc3.2 _ _ (hkc1.2 _ _ s2), hkc3.2 _ _ (hkc1.2 _ _ s3), hkc3.2 _ _ (hkc1.2 _ _ s4), hkc3.2 _ _ (hkc1.2 _ _ s5)⟩)
                    clear hK K
                    (try simp only [Act.put, List.setIfInBounds_toArray, List.set_cons_zero, List.set_cons_succ, List.getElem_toArray, List.getElem_cons_zero, List.getElem_cons_succ])
                    refine wpAnyH_done (by kernel_rfl) ?_ _
                    go_wp2_with fail
                    go_roundw
                    case rel => exact ⟨k + 1, by omega, by go_num, by rw [HLK3.out]; exact HFIN.out⟩
                    case measure => simp [intOf]; omega
                  -- END 19
        · have k3 : decide ((k : Int) < (n : Int)) = false := by rw [decide_eq_false_iff_not]; omega
          have hlen : (sumsR verb byl pf (F.take k)).length ≤ 1000 := by
            have h := sumsR_len (verb := verb) (byl := byl) (p := pf) (F := F) k (by rw [HFN.out]; exact hk)
            omega
          have hall : sumsR verb byl pf (F.take k) = sumsR verb byl pf F := by rw [List.take_of_length_le (by rw [HFN.out]; omega)]
          rw [hall] at HR hlen
          have HSS0 : Hid (∀ d : List K5, d.Pairwise ltK → (∀ x, x ∈ d ↔ x ∈ (sumsR verb byl pf F).map (·.1)) → d.map (fun x => (x, getM (sumsR verb byl pf F) x)) = LL) := fun d h1 h2 => by rw [sums_sorted h1 h2]; exact HLL.out
          generalize sumsR verb byl pf F = SS at *
          clear hall HFT HPF HF HLL
          go_wp2_with fail
          refine (keys_any M wr).mono ?_
          rintro e w5 ⟨rfl, hw5⟩
          have hb5 : Below wr.heap.size wr w5 := by rw [hw5]; exact (Below.refl _ _).alloc (Nat.le_refl _) _
          have hc5 : w5.cell? ⟨wr.heap.size, 0, none⟩ = some (.map (some M)) := by rw [hw5]; exact (Blk.new wr _ _).cell 0
          have HR5 := Lib.hid (HR.out.same hb5)
          have hlt5 : wr.heap.size < w5.heap.size := World.block_lt_of_cell? _ _ hc5
          have HSO := Lib.hid (sorted_any wr.heap.size M SS w5 hlt5 hc5 HR5.out.map hlen)
          clear hb5 hc5 hw5 HR
          go_wp2_with fail
          refine HSO.out.mono ?_
          rintro e x0 ⟨A5, c5, d, rfl, hp, hdm, hdl, hrd, hb⟩
          have HX0 := Lib.hid (HR5.out.same hb)
          have HOK := Lib.hid (fun (x : K5) (hx : x ∈ d) => HX0.out.map.ok ((hdm x).1 hx))
          have HSS := Lib.hid (HSS0.out d hp hdm)
          have HRD := Lib.hid hrd
          clear hp hdm hrd hb HSS0 HSO HR5
          obtain ⟨m, hm⟩ : ∃ m, d.length = m := ⟨_, rfl⟩
          have hm1000 : m ≤ 1000 := by omega
          have HDM := Lib.hid hm
          rw [hm] at HRD ⊢
          clear hm hdl
          obtain ⟨i0, hi0, hz0, hz1, hz2⟩ := info_parts info_prow
          go_wp2_with fail
          go_loopw [13, 75] (fun v i y => ∃ (p : Nat) (rs : List RRow), p ≤ m ∧ i = .int .i64 (p : Int) ∧ RwP x0 nb SS d rs v p y) (fun _ i _ => m - (intOf i).toNat)
          case atStart => exact ⟨0, [], Nat.zero_le _, rfl, RwP.start _ _ _ _⟩
          case round =>
            obtain ⟨p, rs, hpm, rfl, hpp⟩ := hrel
            have HP := Lib.hid hpp
            clear hpp
            have HRW := Lib.hid (HX0.out.same HP.out.below)
            by_cases hlp : p < m
            · have k4 : decide ((p : Int) < (m : Int)) = true := by rw [decide_eq_true_eq]; omega
              obtain ⟨ak, rfl, hak, hkl, a0, aj⟩ := (HRD.out.below HP.out.below).row_at k5C (fun _ => rfl) (by decide) hlp
              have a1 := aj 1 (by decide) (by decide)
              have a2 := aj 2 (by decide) (by decide)
              have a3 := aj 3 (by decide) (by decide)
              have a4 := aj 4 (by decide) (by decide)
              clear aj
              have hke : d[p]? = some (d.getD p default) := by simp [List.getD, hkl]
              have hkok := HOK.out _ (List.mem_of_getElem? hke)
              have HKE := Lib.hid hke
              clear hke
              generalize d.getD p default = key at *
              have hbK := (Below.refl wr.heap.size wr).alloc (Nat.le_refl _) (.cells #[.int .i64 key.a, .int .i64 key.b, .int .i64 key.c, .int .i64 key.d, .int .i64 key.e] 117)
              have hX0lt : X < x0.heap.size := HX0.out.lt.1
              have hblk := Blk.new wr 117 #[.int .i64 key.a, .int .i64 key.b, .int .i64 key.c, .int .i64 key.d, .int .i64 key.e]
              obtain ⟨wk, hwk⟩ : ∃ wk, wr.alloc (.cells #[.int .i64 key.a, .int .i64 key.b, .int .i64 key.c, .int .i64 key.d, .int .i64 key.e] 117) = wk := ⟨_, rfl⟩
              rw [hwk] at hbK hblk
              obtain ⟨KB, hKB⟩ : ∃ KB, wr.heap.size = KB := ⟨_, rfl⟩
              have HRK := Lib.hid (HRW.out.same hbK)
              have HLU : Hid (∀ y, MapS y M SS → (Instr.lookup 116 (.map (some M)) (.agg #[.int .i64 key.a, .int .i64 key.b, .int .i64 key.c, .int .i64 key.d, .int .i64 key.e]) false).run Tryz.prog y = .ok (.int .i64 (getM SS key)) y) := fun y hy => map_lookup hy hkok
              have HCLO : Hid (∀ y : World, y.heap = wk.heap → Calls Tryz.prog 66 #[.slice (some ⟨KB, 0, none⟩) nb 5] y fun e w' => ∃ A' c', e = .returned (.slice A' nb c') ∧ w'.ownsRow y.heap.size 3 1 (.slice A' nb c') nb ((key.l.take nb).map intV) ∧ Below y.heap.size y w') := fun y hy => by
                have hby : Blk y KB 117 #[.int .i64 key.a, .int .i64 key.b, .int .i64 key.c, .int .i64 key.d, .int .i64 key.e] := by
                  show y.heap[KB]? = _
                  rw [hy, ← hKB]; exact hblk
                exact clone_any (key.l.take nb) ⟨KB, 0, none⟩ nb 5 y.heap.size y (k5_reads hby hby.lt HB52.out.1) (Nat.le_refl _) (by have := HB52.out.1; omega)
              have hlu := HLU.out _ HRK.out.map
              have HPUSH : Hid (moneyB (getM SS key) = true → ∀ (A' : Option Addr) (c' : Nat) (v8 : Value) (w6 w8 : World), Below wk.heap.size wk w6 → w6.ownsRow x0.heap.size 3 1 (.slice A' nb c') nb ((key.l.take nb).map intV) → (w6.alloc (.cells #[.slice A' nb c', .int .i64 (getM SS key)] 68)).grownBy w8 u13.ownBlock → w8.ownsRow x0.heap.size 68 2 v8 (p + 1) (rrowsC rs ++ [.slice A' nb c', .int .i64 (getM SS key)]) → RwP x0 nb SS d (rs ++ [⟨A', nb, c', key.l.take nb, getM SS key⟩]) v8 (p + 1) w8) := fun hmo A' c' v8 w6 w8 h1 h2 h3 h4 =>
                HP.out.push HKE.out HB52.out.1 hmo (below_two (below_two hbK h1) ((Below.refl _ w6).alloc (Nat.le_refl _) _)) (h2.alloc _) h3 h4
              have hKEP : Hid (∀ (A' : Option Addr) (c' : Nat) (v8 : Value) (w6 w8 : World), Below wk.heap.size wk w6 → w6.ownsRow x0.heap.size 68 2 u13 p (rrowsC rs) → (w6.alloc (.cells #[.slice A' nb c', .int .i64 (getM SS key)] 68)).grownBy w8 u13.ownBlock → (∀ a v, a.block < x0.heap.size → w6.cell? a = some v → w8.cell? a = some v) ∧ (MapS w6 M SS → MapS w8 M SS) ∧ (Blk w6 KB 117 #[.int .i64 key.a, .int .i64 key.b, .int .i64 key.c, .int .i64 key.d, .int .i64 key.e] → Blk w8 KB 117 #[.int .i64 key.a, .int .i64 key.b, .int .i64 key.c, .int .i64 key.d, .int .i64 key.e])) := fun A' c' v8 w6 w8 h1 h2 h3 => by
                have h4 := ((Below.refl x0.heap.size w6).alloc (by have := h1.size; have := hbK.size; have := HP.out.below.size; omega) _).grown h3 (by have := h1.size; have := hbK.size; have := HP.out.below.size; simp only [World.size_alloc]; omega) (fun r e => own_base h2 r e)
                exact ⟨fun a v ha hc => (h4.cell ha).trans hc, fun hm => hm.below h4 HX0.out.map.lt, fun hb => (hb.alloc _).grown h3 (fun e => own_blk_ne h2 hb (by decide) e.symm)⟩
              have HSSM : Hid ((key, getM SS key) ∈ LL) := by
                show _
                rw [← HSS.out]
                exact List.mem_map.2 ⟨key, List.mem_of_getElem? HKE.out, rfl⟩
              have q1 := HRK.out.q1
              replace a0 : wr.cell? (ak.add (p * 5)) = some (.int .i64 key.a) := a0
              replace a1 : wr.cell? ⟨(ak.add (p * 5)).block, (ak.add (p * 5)).off + 1, none⟩ = some (.int .i64 key.b) := a1
              replace a2 : wr.cell? ⟨(ak.add (p * 5)).block, (ak.add (p * 5)).off + 2, none⟩ = some (.int .i64 key.c) := a2
              replace a3 : wr.cell? ⟨(ak.add (p * 5)).block, (ak.add (p * 5)).off + 3, none⟩ = some (.int .i64 key.d) := a3
              replace a4 : wr.cell? ⟨(ak.add (p * 5)).block, (ak.add (p * 5)).off + 4, none⟩ = some (.int .i64 key.e) := a4
              have c0 := hblk.cell 0
              have c1 := hblk.cell 1
              have c2 := hblk.cell 2
              have c3 := hblk.cell 3
              have c4 := hblk.cell 4
              simp only [List.getElem?_toArray, List.getElem?_cons_zero, List.getElem?_cons_succ] at c0 c1 c2 c3 c4
              rw [hKB] at c0 c1 c2 c3 c4
              obtain ⟨ka, kb, kc, kd, ke⟩ := key
              simp only [] at hwk c0 c1 c2 c3 c4 a0 a1 a2 a3 a4 hlu
              have HMV := Lib.hid (moneyv_any (getM SS ⟨ka, kb, kc, kd, ke⟩) wk)
              generalize hsg : getM SS ⟨ka, kb, kc, kd, ke⟩ = s at *
              have HBLK := Lib.hid hblk
              rw [hKB] at HBLK
              simp only [] at HBLK hKEP
              clear hsg hblk hkok
              obtain ⟨g0, g1⟩ := HRK.out.lt
              have HMV2 : Hid (Calls Tryz.prog 65 #[.int .i64 s] wk fun e w' => e = .returned (.bool (moneyB s)) ∧ wk = w') := HMV.out
              clear HMV
              generalize hmb : moneyB s = mb at *
              have HMB := Lib.hid hmb
              clear hmb
              go_wp2_with fail
              refine HMV2.out.mono ?_
              rintro e w9 ⟨rfl, rfl⟩
              cases mb with
              | false =>
                go_wp2_with fail
                refine bodyPost_ret (v := .tuple #[.slice none 0 0, .int .i64 2]) ?_ rfl ?_
                · simp [results, Tryz.results26, go_sem]
                · exact ⟨.inr (.inl ⟨rfl, ⟨_, HSSM.out, HMB.out⟩, rfl⟩), HRK.out.below⟩
              | true =>
                have HPUSH2 := Lib.hid (HPUSH.out (by first | exact rfl | trivial))
                have hnb5 : nb ≤ 5 := HB52.out.1
                have hnbi : (nb : Int) ≤ 5 := by omega
                have hnb0 : (0 : Int) ≤ (nb : Int) := by omega
                have hDRW : Hid (∀ y, Below wk.drew.heap.size wk.drew y → Below wk.heap.size wk y) := fun y hy => (Below.refl wk.heap.size wk).drew.trans hy
                -- REGION 27
                go_upto_region 27 with fail
                refine wp_region_held_drew (S := fun y => Blk y KB 117 #[.int .i64 ka, .int .i64 kb, .int .i64 kc, .int .i64 kd, .int .i64 ke] ∧ y.cell? ⟨X, 1, none⟩ = some (.slice Ab nb cb) ∧ MapS y M SS) (by kernel_rfl) ⟨HBLK.out, q1, HRK.out.map.kept rfl⟩ (fun hHeld => ?_)
                refine wpAnyH_take (i := 0) (v := ?vr270) rfl (by kernel_rfl) (by kernel_rfl) (by kernel_rfl) (fun _ _ _ h => h) (Or.inl ⟨by rfl, ?hyr270⟩) (by assumption) ?restr270
                case hyr270 => (intro w_ hSw; (try dsimp only at hSw); obtain ⟨hb_, q1_, hm_⟩ := hSw; go_simp; (try with_reducible rfl))
                (try simp only [Act.put, List.setIfInBounds_toArray, List.set_cons_zero, List.set_cons_succ, List.getElem_toArray, List.getElem_cons_zero, List.getElem_cons_succ])
                refine wpAnyH_take (i := 1) (v := ?vr271) rfl (by kernel_rfl) (by kernel_rfl) (by kernel_rfl) (fun _ _ _ h => h) (Or.inl ⟨by rfl, ?hyr271⟩) (by assumption) ?restr271
                case hyr271 => (intro w_ hSw; (try dsimp only at hSw); obtain ⟨hb_, q1_, hm_⟩ := hSw; go_simp; (try with_reducible rfl))
                (try simp only [Act.put, List.setIfInBounds_toArray, List.set_cons_zero, List.set_cons_succ, List.getElem_toArray, List.getElem_cons_zero, List.getElem_cons_succ])
                refine wpAnyH_take (i := 2) (v := ?vr272) rfl (by kernel_rfl) (by kernel_rfl) (by kernel_rfl) (fun _ _ _ h => h) (Or.inl ⟨by rfl, ?hyr272⟩) (by assumption) ?restr272
                case hyr272 => (intro w_ hSw; (try dsimp only at hSw); obtain ⟨hb_, q1_, hm_⟩ := hSw; go_simp; (try with_reducible rfl))
                (try simp only [Act.put, List.setIfInBounds_toArray, List.set_cons_zero, List.set_cons_succ, List.getElem_toArray, List.getElem_cons_zero, List.getElem_cons_succ])
                refine wpAnyH_take (i := 3) (v := ?vr273) rfl (by kernel_rfl) (by kernel_rfl) (by kernel_rfl) (fun _ _ _ h => h) (Or.inl ⟨by rfl, ?hyr273⟩) (by assumption) ?restr273
                case hyr273 => (intro w_ hSw; (try dsimp only at hSw); obtain ⟨hb_, q1_, hm_⟩ := hSw; go_simp; (try with_reducible rfl))
                (try simp only [Act.put, List.setIfInBounds_toArray, List.set_cons_zero, List.set_cons_succ, List.getElem_toArray, List.getElem_cons_zero, List.getElem_cons_succ])
                refine wpAnyH_take (i := 4) (v := ?vr274) rfl (by kernel_rfl) (by kernel_rfl) (by kernel_rfl) (fun _ _ _ h => h) (Or.inl ⟨by rfl, ?hyr274⟩) (by assumption) ?restr274
                case hyr274 => (intro w_ hSw; (try dsimp only at hSw); obtain ⟨hb_, q1_, hm_⟩ := hSw; go_simp; (try with_reducible rfl))
                (try simp only [Act.put, List.setIfInBounds_toArray, List.set_cons_zero, List.set_cons_succ, List.getElem_toArray, List.getElem_cons_zero, List.getElem_cons_succ])
                refine wpAnyH_take (i := 6) (v := ?vr276) rfl (by kernel_rfl) (by kernel_rfl) (by kernel_rfl) (fun _ _ _ h => h) (Or.inl ⟨by rfl, ?hyr276⟩) (by assumption) ?restr276
                case hyr276 => (intro w_ hSw; (try dsimp only at hSw); obtain ⟨hb_, q1_, hm_⟩ := hSw; go_simp; (try with_reducible rfl))
                (try simp only [Act.put, List.setIfInBounds_toArray, List.set_cons_zero, List.set_cons_succ, List.getElem_toArray, List.getElem_cons_zero, List.getElem_cons_succ])
                refine wpAnyH_take (i := 7) (v := ?vr277) rfl (by kernel_rfl) (by kernel_rfl) (by kernel_rfl) (fun _ _ _ h => h) (Or.inl ⟨by rfl, ?hyr277⟩) (by assumption) ?restr277
                case hyr277 => (intro w_ hSw; (try dsimp only at hSw); obtain ⟨hb_, q1_, hm_⟩ := hSw; have c0_ := hb_.cell 0; have c1_ := hb_.cell 1; have c2_ := hb_.cell 2; have c3_ := hb_.cell 3; have c4_ := hb_.cell 4; simp only [List.getElem?_toArray, List.getElem?_cons_zero, List.getElem?_cons_succ] at c0_ c1_ c2_ c3_ c4_; clear hb_ hm_; go_simp; (try with_reducible rfl))
                (try simp only [Act.put, List.setIfInBounds_toArray, List.set_cons_zero, List.set_cons_succ, List.getElem_toArray, List.getElem_cons_zero, List.getElem_cons_succ])
                refine wpAnyH_take (i := 8) (v := ?vr278) rfl (by kernel_rfl) (by kernel_rfl) (by kernel_rfl) (fun _ _ _ h => h) (Or.inl ⟨by rfl, ?hyr278⟩) (by assumption) ?restr278
                case hyr278 => (intro w_ hSw; (try dsimp only at hSw); obtain ⟨hb_, q1_, hm_⟩ := hSw; have hl_ := HLU.out _ hm_; clear hm_; go_simp; (try with_reducible rfl))
                (try simp only [Act.put, List.setIfInBounds_toArray, List.set_cons_zero, List.set_cons_succ, List.getElem_toArray, List.getElem_cons_zero, List.getElem_cons_succ])
                refine wpAnyH_ready (rs := [5]) (by kernel_rfl) (by simp) ?_
                refine (AllReadyH.cons rfl (fun K hK => ?_) AllReadyH.nil)
                go_simp
                refine (HCLO.out wk.drew rfl).mono ?_
                rintro e w6 ⟨A', c', rfl, ho6, hb6⟩
                have HB6 := Lib.hid hb6
                have HO6 := Lib.hid ho6
                clear ho6 hb6
                dsimp only
                have hb6 := HB6.out
                have hk6 := KeepC.of_below hb6
                refine hK.out _ _ ?hSr27c (fun hHeld6 => ?_)
                case hSr27c => (obtain ⟨s0, s5, s6⟩ := hHeld; exact ⟨s0.below hb6 s0.lt, hk6.2 _ _ s5, s6.below hb6 s6.lt⟩)
                clear hK K hb6 hk6
                (try simp only [Act.put, List.setIfInBounds_toArray, List.set_cons_zero, List.set_cons_succ, List.getElem_toArray, List.getElem_cons_zero, List.getElem_cons_succ])
                refine wpAnyH_take (i := 9) (v := ?vr279) rfl (by kernel_rfl) (by kernel_rfl) (by kernel_rfl) (fun _ _ _ h => h) (Or.inl ⟨by rfl, ?hyr279⟩) (by assumption) ?restr279
                case hyr279 => (intro w_ hSw; (try dsimp only at hSw); obtain ⟨hb_, q1_, hm_⟩ := hSw; go_simp; (try with_reducible rfl))
                (try simp only [Act.put, List.setIfInBounds_toArray, List.set_cons_zero, List.set_cons_succ, List.getElem_toArray, List.getElem_cons_zero, List.getElem_cons_succ])
                refine wpAnyH_ready (rs := [10]) (by kernel_rfl) (by simp) ?_
                refine (AllReadyH.cons rfl (fun K hK => ?_) AllReadyH.nil)
                go_simp
                refine hK.out _ _ ?hSr27b (fun hHeld7 => ?_)
                case hSr27b => (have hk7 := KeepC.of_below ((Below.refl w6.heap.size w6).alloc (Nat.le_refl _) (.cells (#[.slice A' nb c', .int .i64 s] : Array Value) 68)); obtain ⟨s0, s5, s6⟩ := hHeld6; exact ⟨s0.alloc _, hk7.2 _ _ s5, s6.below ((Below.refl w6.heap.size w6).alloc (Nat.le_refl _) _) s6.lt⟩)
                clear hK K
                (try simp only [Act.put, List.setIfInBounds_toArray, List.set_cons_zero, List.set_cons_succ, List.getElem_toArray, List.getElem_cons_zero, List.getElem_cons_succ])
                refine wpAnyH_ready (rs := [11]) (by kernel_rfl) (by simp) ?_
                refine (AllReadyH.cons rfl (fun K hK => ?_) AllReadyH.nil)
                have hb6 := HB6.out
                have ho6 := HO6.out
                have hs6 := hb6.size
                (try simp only [World.size_drew] at hs6)
                have hbk6 : Below wk.heap.size wk w6 := hDRW.out _ hb6
                have hrow6 := own_below (HP.out.row) (below_two hbK hbk6)
                (refine step_append_any _ rfl (.tmp 84) (.tmp 94) _ rfl x0.heap.size 68 i0 _ 2 32 Tryz.underlying59 hi0 hz0 hz1 hz2 rfl (by omega) _ p (rrowsC rs) (by simp [Act.eval]) (hrow6.alloc _) (w6.heap.size + 1) (some ⟨w6.heap.size, 0, none⟩) 1 1 [.slice A' nb c', .int .i64 s] (by simp [Act.eval]) (reads_one w6 #[.slice A' nb c', .int .i64 s] 68 2 rfl) (two_one _ _ _ _) (by simp only [maxLen]; omega) (by omega) (by (try simp only [World.size_alloc, World.size_drew]); have := hbk6.size; have := hbK.size; have := HP.out.below.size; omega) ?_; intro v8 w8 hown8 hg8 hat8)
                have HFIN := Lib.hid (HPUSH2.out A' c' v8 w6 w8 hbk6 (own_low ho6 (by (try simp only [World.size_drew]); have := hbK.size; have := HP.out.below.size; omega)) hg8 hown8)
                refine hK.out _ _ ?hSr27a (fun hHeld8 => ?_)
                case hSr27a => (have hk8 := hKEP.out A' c' v8 w6 w8 hbk6 hrow6 hg8; obtain ⟨s0, s5, s6⟩ := hHeld6; exact ⟨hk8.2.2 s0, hk8.1 _ _ (show X < x0.heap.size from hX0lt) s5, hk8.2.1 s6⟩)
                clear hK K hown8 hg8 hat8 hrow6 hHeld hHeld6 hHeld7
                (try simp only [Act.put, List.setIfInBounds_toArray, List.set_cons_zero, List.set_cons_succ, List.getElem_toArray, List.getElem_cons_zero, List.getElem_cons_succ])
                refine wpAnyH_take (i := 12) (v := ?vr2712) rfl (by kernel_rfl) (by kernel_rfl) (by kernel_rfl) (fun _ _ _ h => h) (Or.inl ⟨by rfl, ?hyr2712⟩) (by assumption) ?restr2712
                case hyr2712 => (intro w_ hSw; (try dsimp only at hSw); obtain ⟨hb_, q1_, hm_⟩ := hSw; go_simp; (try with_reducible rfl))
                (try simp only [Act.put, List.setIfInBounds_toArray, List.set_cons_zero, List.set_cons_succ, List.getElem_toArray, List.getElem_cons_zero, List.getElem_cons_succ])
                refine wpAnyH_done (by kernel_rfl) ?_ _
                go_wp2_with fail
                go_roundw
                case rel => exact ⟨p + 1, _, by omega, by go_num, HFIN.out⟩
                case measure => simp [intOf]; omega
                -- END 27
            · have k4 : decide ((p : Int) < (m : Int)) = false := by rw [decide_eq_false_iff_not]; omega
              obtain rfl : p = m := by omega
              go_wp2_with fail
              obtain ⟨A9, c9, rfl⟩ := own_slice HP.out.row
              refine bodyPost_ret (v := .tuple #[.slice A9 p c9, .int .i64 0]) ?_ rfl ?_
              · simp [results, Tryz.results26, go_sem]
              · have htk : d.take p = d := List.take_of_length_le (by rw [HDM.out]; exact Nat.le_refl _)
                refine ⟨.inr (.inr ⟨rfl, fun q hq => ?_, A9, p, c9, rfl, ?_⟩), HRW.out.below⟩
                · rw [← HSS.out] at hq
                  obtain ⟨x, hx, rfl⟩ := List.mem_map.1 hq
                  exact HP.out.ok x (by rw [htk]; exact hx)
                · refine ⟨by rw [← HSS.out, List.length_map, HDM.out], rs, ?_, Reads.of_own HP.out.row, fun j hj => ?_⟩
                  · rw [HP.out.eq, htk, ← HSS.out, List.map_map]; rfl
                  · have hjl : j < rs.length := by rw [HP.out.len]; exact hj
                    have hmem : rs.getD j default ∈ rs := by
                      have e : rs.getD j default = rs[j] := by simp [List.getD, hjl]
                      rw [e]; exact List.getElem_mem hjl
                    obtain ⟨h1, h2, h3⟩ := HP.out.ks _ hmem
                    exact ⟨⟨rdby_own h3 (by rw [h2, h1]), by rw [h2, h1], by have := HB52.out.1; omega⟩, own_capQ h3⟩
end Go.Proofs.YtfnlddloalineaaGreatDoor
