/-
  A map of the call's own whose elements are bools, keyed by whatever has a key law: look-up and store.
-/
import Derived.Test.YtcmmppkmkejniaaGreatDoorBlSt
import Derived.BigFrame
import Derived.Maps.OwnOps
import Derived.WideKeyEntry
import Derived.DeepKeys4
import Derived.WalkKit
import Derived.Maps.AppendAt
namespace Go.Proofs.YtcmmppkmkejniaaGreatDoor
open Go.RowKit Go.ChangeMaps
open Go.Maps (Keyed)
set_option linter.unusedVariables false
set_option linter.unusedSimpArgs false
set_option maxRecDepth 100000
theorem laidOutB1 : laidOutB Tryz.prog = true := by kernel_rfl
/-- a kind of keys: its type, its map's type, how a key is written -/
structure MK (κ : Type) where
  T : TypeId
  KT : TypeId
  V : κ → Value
  ok : κ → Prop
  ht : Tryz.prog.underlying T = some (.map KT 4)
  law : Keyed Tryz.prog KT
  inj : ∀ a b, V a = V b → a = b
  key : ∀ a, ok a → ∃ lt, keyOf Tryz.prog KT (V a) = some lt
section
variable {κ : Type}
/-- block b is a map with these pairs, in the order in which they came -/
def MapB (M : MK κ) (w : World) (b : Nat) (l : List (κ × Bool)) : Prop := ∃ es clock, w.heap[b]? = some (.map es clock) ∧ es.toList.map (fun e => (e.key, e.val)) = l.map (fun p => (M.V p.1, Value.bool p.2)) ∧ (∀ e, e ∈ es.toList → e.born < clock) ∧ (es.toList.map (·.born)).Nodup ∧ (∀ p, p ∈ l → M.ok p.1) ∧ (l.map (·.1)).Nodup
variable {M : MK κ}
theorem MapB.made (w : World) : MapB M (w.alloc (.map #[] 0)) w.heap.size [] := ⟨#[], 0, (MapKept.heap_alloc w _).1, rfl, by simp, by simp, by simp, by simp⟩
theorem MapB.lt {w : World} {b : Nat} {l : List (κ × Bool)} (h : MapB M w b l) : b < w.heap.size := by
  obtain ⟨es, clock, hb, _⟩ := h
  exact (Array.getElem?_eq_some_iff.1 hb).1
theorem MapB.kept {w w' : World} {b : Nat} {l : List (κ × Bool)} (h : MapB M w b l) (hk : w'.heap[b]? = w.heap[b]?) : MapB M w' b l := by
  obtain ⟨es, clock, hb, r⟩ := h
  exact ⟨es, clock, hk.trans hb, r⟩
theorem MapB.below {w w' : World} {b B : Nat} {l : List (κ × Bool)} (h : MapB M w b l) (hb : Below B w w') (hB : b < B) : MapB M w' b l := h.kept (hb.block b hB)
theorem MapB.drew {w : World} {b : Nat} {l : List (κ × Bool)} (h : MapB M w b l) : MapB M w.drew b l := h
theorem MapB.drewN {w : World} {b : Nat} {l : List (κ × Bool)} (h : MapB M w b l) (n : Nat) : MapB M (w.drewN n) b l := h
theorem MapB.alloc {w : World} {b : Nat} {l : List (κ × Bool)} (h : MapB M w b l) (o : Obj) : MapB M (w.alloc o) b l := h.kept (Below.heap_alloc w o b h.lt)
theorem MapB.grown {w w' : World} {b : Nat} {l : List (κ × Bool)} {row : Option Nat} (h : MapB M w b l) (hg : w.grownBy w' row) (hr : some b ≠ row) : MapB M w' b l := h.kept (hg.block b h.lt hr)
theorem entsB_at {es : List MapEntry} {l : List (κ × Bool)} (h : es.map (fun e => (e.key, e.val)) = l.map (fun p => (M.V p.1, Value.bool p.2))) {j : Nat} {e : MapEntry} (he : es[j]? = some e) : ∃ p, l[j]? = some p ∧ e.key = M.V p.1 ∧ e.val = .bool p.2 := by
  have h1 : (es.map (fun e => (e.key, e.val)))[j]? = some (e.key, e.val) := by rw [List.getElem?_map, he]; rfl
  rw [h, List.getElem?_map] at h1
  cases hp : l[j]? with
  | none => rw [hp] at h1; cases h1
  | some p =>
    rw [hp] at h1
    simp only [Option.map_some, Option.some.injEq, Prod.mk.injEq] at h1
    exact ⟨p, rfl, h1.1.symm, h1.2.symm⟩
theorem entsB_back {es : List MapEntry} {l : List (κ × Bool)} (h : es.map (fun e => (e.key, e.val)) = l.map (fun p => (M.V p.1, Value.bool p.2))) {p : κ × Bool} (hp : p ∈ l) : ∃ e, e ∈ es ∧ e.key = M.V p.1 := by
  have h1 : (M.V p.1, Value.bool p.2) ∈ l.map (fun p => (M.V p.1, Value.bool p.2)) := List.mem_map.2 ⟨p, hp, rfl⟩
  rw [← h] at h1
  obtain ⟨e, he, e1⟩ := List.mem_map.1 h1
  simp only [Prod.mk.injEq] at e1
  exact ⟨e, he, e1.1⟩
theorem grown_mapB {w : World} {b : Nat} (o : Obj) : w.grownBy (setBlock w b o) (some b) :=
  ⟨rfl, rfl, rfl, by simp [setBlock], fun k hk hne => by
    have hkb : b ≠ k := fun e => hne (by rw [e])
    simp [setBlock, Array.getElem?_setIfInBounds_ne hkb]⟩
theorem setB_here {w : World} {b : Nat} {o' : Obj} (h : w.heap[b]? = some o') (o : Obj) : (setBlock w b o).heap[b]? = some o := by
  have hb : b < w.heap.size := (Array.getElem?_eq_some_iff.1 h).1
  simp [setBlock, hb]
theorem MapB.push {w : World} {b : Nat} {l : List (κ × Bool)} {es : Array MapEntry} {clock : Nat} {k : κ} (v : Bool) {o' : Obj} (hb : w.heap[b]? = some o') (he : es.toList.map (fun e => (e.key, e.val)) = l.map (fun p => (M.V p.1, Value.bool p.2))) (hst : ∀ e, e ∈ es.toList → e.born < clock) (hnd : (es.toList.map (·.born)).Nodup) (hok : ∀ p, p ∈ l → M.ok p.1) (hkn : (l.map (·.1)).Nodup) (hk : M.ok k) (hnew : ∀ p, p ∈ l → p.1 ≠ k) :
    MapB M (setBlock w b (.map (es.push ⟨M.V k, .bool v, clock⟩) (clock + 1))) b (l ++ [(k, v)]) := by
  refine ⟨_, _, setB_here hb _, ?_, ?_, ?_, ?_, ?_⟩
  · rw [Array.toList_push, List.map_append, List.map_append, he]; rfl
  · intro e hm
    rw [Array.toList_push, List.mem_append, List.mem_singleton] at hm
    rcases hm with hm | rfl
    · have := hst e hm; omega
    · show clock < clock + 1; omega
  · rw [Array.toList_push, List.map_append]
    refine List.nodup_append.2 ⟨hnd, by simp, fun a ha c hc e1 => ?_⟩
    simp only [List.map_cons, List.map_nil, List.mem_singleton] at hc
    obtain ⟨x, hx, rfl⟩ := List.mem_map.1 ha
    have := hst x hx
    omega
  · intro p hp
    rcases List.mem_append.1 hp with hp | hp
    · exact hok p hp
    · rw [List.mem_singleton] at hp; rw [hp]; exact hk
  · rw [List.map_append]
    refine List.nodup_append.2 ⟨hkn, by simp, fun a ha c hc e1 => ?_⟩
    simp only [List.map_cons, List.map_nil, List.mem_singleton] at hc
    obtain ⟨x, hx, rfl⟩ := List.mem_map.1 ha
    exact hnew x hx (e1.trans hc)
theorem MapB.setAt {w : World} {b : Nat} {l : List (κ × Bool)} {es : Array MapEntry} {clock : Nat} {k : κ} (v : Bool) {o' : Obj} {j : Nat} {e0 : MapEntry} {p : κ × Bool} (hb : w.heap[b]? = some o') (he : es.toList.map (fun e => (e.key, e.val)) = l.map (fun p => (M.V p.1, Value.bool p.2))) (hst : ∀ e, e ∈ es.toList → e.born < clock) (hnd : (es.toList.map (·.born)).Nodup) (hok : ∀ p, p ∈ l → M.ok p.1) (hkn : (l.map (·.1)).Nodup) (hk : M.ok k) (hj : es.toList[j]? = some e0) (hkey : e0.key = M.V k) (hp : l[j]? = some p) (hpk : p.1 = k) :
    MapB M (setBlock w b (.map (es.modify j fun e => { e with key := M.V k, val := .bool v }) clock)) b (l.set j (k, v)) := by
  have hset : (es.modify j fun e => { e with key := M.V k, val := .bool v }).toList = es.toList.set j { e0 with key := M.V k, val := .bool v } := by
    rw [Array.toList_modify, modify_eq_set _ _ _ _ hj]
  refine ⟨_, _, setB_here hb _, ?_, ?_, ?_, ?_, ?_⟩
  · rw [hset, List.map_set, List.map_set, he]
  · intro e hm
    rw [hset] at hm
    rcases List.mem_or_eq_of_mem_set hm with hm | rfl
    · exact hst e hm
    · exact hst e0 (List.mem_of_getElem? hj)
  · rw [hset, List.map_set]
    have hself : (es.toList.map (·.born)).set j e0.born = es.toList.map (·.born) := Go.WideElems.set_self _ _ _ (by rw [List.getElem?_map, hj]; rfl)
    show ((es.toList.map (·.born)).set j e0.born).Nodup
    rw [hself]; exact hnd
  · intro q hq
    rcases List.mem_or_eq_of_mem_set hq with hq | rfl
    · exact hok q hq
    · exact hk
  · rw [List.map_set]
    have hself : (l.map (·.1)).set j k = l.map (·.1) := Go.WideElems.set_self _ _ _ (by rw [List.getElem?_map, hp]; show some p.1 = some k; rw [hpk])
    show ((l.map (·.1)).set j k).Nodup
    rw [hself]; exact hkn
theorem mapB_find {w : World} {es : Array MapEntry} {l : List (κ × Bool)} {k : κ} (he : es.toList.map (fun e => (e.key, e.val)) = l.map (fun p => (M.V p.1, Value.bool p.2))) (hok : ∀ p, p ∈ l → M.ok p.1) (hk : M.ok k) :
    ((Instr.findKey M.KT (M.V k) es.toList).run Tryz.prog w = .ok none w ∧ (∀ p, p ∈ l → p.1 ≠ k)) ∨ ∃ j e p, (Instr.findKey M.KT (M.V k) es.toList).run Tryz.prog w = .ok (some (j, e.val)) w ∧ es.toList[j]? = some e ∧ e.key = M.V k ∧ l[j]? = some p ∧ p.1 = k ∧ e.val = .bool p.2 := by
  obtain ⟨lt, hlt⟩ := M.key k hk
  have hkeys : ∀ e, e ∈ es.toList → ∃ l, keyOf Tryz.prog M.KT e.key = some l := fun e hm => by
    obtain ⟨j, hj⟩ := List.getElem?_of_mem hm
    obtain ⟨p, hp, h1, _⟩ := entsB_at he hj
    rw [h1]
    exact M.key _ (hok p (List.mem_of_getElem? hp))
  rcases M.law.find w hlt es.toList hkeys with ⟨h1, h2⟩ | ⟨j, e, h1, h2, h3⟩
  · refine .inl ⟨h1, fun p hp e1 => ?_⟩
    obtain ⟨e, hm, h3⟩ := entsB_back he hp
    exact h2 e hm (by rw [h3, e1])
  · obtain ⟨p, hp, h4, h5⟩ := entsB_at he h2
    exact .inr ⟨j, e, p, h1, h2, h3, hp, M.inj _ _ (h4.symm.trans h3), h5⟩
end
section
variable {κ : Type} [DecidableEq κ] {M : MK κ}
/-- what a list of pairs has at a key; false: nothing -/
def getB : List (κ × Bool) → κ → Bool
  | [], _ => false
  | p :: r, k => if p.1 = k then p.2 else getB r k
/-- with a key's value set: where the key stands, or behind the last -/
def putB : List (κ × Bool) → κ → Bool → List (κ × Bool)
  | [], k, v => [(k, v)]
  | p :: r, k, v => if p.1 = k then (k, v) :: r else p :: putB r k v
theorem getB_putB (l : List (κ × Bool)) (k k' : κ) (v : Bool) : getB (putB l k v) k' = if k = k' then v else getB l k' := by
  induction l with
  | nil => simp [putB, getB]
  | cons p r ih =>
    by_cases h : p.1 = k
    · simp only [putB, if_pos h, getB]
      by_cases h2 : k = k'
      · rw [if_pos h2, if_pos h2]
      · rw [if_neg h2, if_neg h2, if_neg (by rw [h]; exact h2)]
    · simp only [putB, if_neg h, getB]
      by_cases h2 : p.1 = k'
      · rw [if_pos h2, if_pos h2, if_neg (by rintro rfl; exact h h2)]
      · rw [if_neg h2, if_neg h2, ih]
theorem putB_len (l : List (κ × Bool)) (k : κ) (v : Bool) : (putB l k v).length ≤ l.length + 1 := by
  induction l with
  | nil => simp [putB]
  | cons p r ih =>
    unfold putB
    split
    · simp
    · simp only [List.length_cons]; omega
theorem getB_none : ∀ {l : List (κ × Bool)} {k : κ}, (∀ p, p ∈ l → p.1 ≠ k) → getB l k = false := by
  intro l
  induction l with
  | nil => intro k _; rfl
  | cons p r ih =>
    intro k h
    rw [getB, if_neg (h p (by simp)), ih (fun q hq => h q (List.mem_cons_of_mem _ hq))]
theorem getB_at : ∀ {l : List (κ × Bool)} {k : κ} {j : Nat} {p : κ × Bool}, (l.map (·.1)).Nodup → l[j]? = some p → p.1 = k → getB l k = p.2 := by
  intro l
  induction l with
  | nil => intro k j p _ h; simp at h
  | cons q r ih =>
    intro k j p hn h hk
    rw [List.map_cons, List.nodup_cons] at hn
    cases j with
    | zero =>
      simp only [List.getElem?_cons_zero, Option.some.injEq] at h
      subst h
      rw [getB, if_pos hk]
    | succ j =>
      simp only [List.getElem?_cons_succ] at h
      have hne : q.1 ≠ k := fun e => hn.1 (by rw [e, ← hk]; exact List.mem_map.2 ⟨p, List.mem_of_getElem? h, rfl⟩)
      rw [getB, if_neg hne, ih hn.2 h hk]
theorem putB_none : ∀ {l : List (κ × Bool)} {k : κ} {v : Bool}, (∀ p, p ∈ l → p.1 ≠ k) → putB l k v = l ++ [(k, v)] := by
  intro l
  induction l with
  | nil => intro k v _; rfl
  | cons p r ih =>
    intro k v h
    rw [putB, if_neg (h p (by simp)), ih (fun q hq => h q (List.mem_cons_of_mem _ hq))]; rfl
theorem putB_at : ∀ {l : List (κ × Bool)} {k : κ} {v : Bool} {j : Nat} {p : κ × Bool}, (l.map (·.1)).Nodup → l[j]? = some p → p.1 = k → putB l k v = l.set j (k, v) := by
  intro l
  induction l with
  | nil => intro k v j p _ h; simp at h
  | cons q r ih =>
    intro k v j p hn h hk
    rw [List.map_cons, List.nodup_cons] at hn
    cases j with
    | zero =>
      simp only [List.getElem?_cons_zero, Option.some.injEq] at h
      subst h
      rw [putB, if_pos hk]; rfl
    | succ j =>
      simp only [List.getElem?_cons_succ] at h
      have hne : q.1 ≠ k := fun e => hn.1 (by rw [e, ← hk]; exact List.mem_map.2 ⟨p, List.mem_of_getElem? h, rfl⟩)
      rw [putB, if_neg hne, ih hn.2 h hk]; rfl
theorem zeroB (w : World) : (zeroValue 4).run Tryz.prog w = .ok (.bool false) w := by kernel_rfl
theorem mapB_lookup {w : World} {b : Nat} {l : List (κ × Bool)} {k : κ} (h : MapB M w b l) (hk : M.ok k) : (Instr.lookup M.T (.map (some b)) (M.V k) false).run Tryz.prog w = .ok (.bool (getB l k)) w := by
  obtain ⟨es, clock, hb, he, hst, hnd, hok, hkn⟩ := h
  obtain ⟨lt, hlt⟩ := M.key k hk
  have hc := M.law.check w es.isEmpty hlt
  rcases mapB_find (w := w) he hok hk with ⟨h1, h2⟩ | ⟨j, e, p, h1, h2, h3, h4, h5, h6⟩
  · rw [getB_none h2]
    simp [Instr.lookup, run_underlying M.ht, MapKept.run_getObj_map hb, hc, h1, Result.andThen, zeroB]
  · rw [getB_at hkn h4 h5]
    simp [Instr.lookup, run_underlying M.ht, MapKept.run_getObj_map hb, hc, h1, h6, Result.andThen, zeroB]
/-- m[k] = v -/
theorem mapB_store {w : World} {b : Nat} {l : List (κ × Bool)} {k : κ} (v : Bool) (h : MapB M w b l) (hk : M.ok k) : ∃ w1, (Instr.mapUpdate M.T (.map (some b)) (M.V k) (.bool v)).run Tryz.prog w = .ok () w1 ∧ w.grownBy w1 (some b) ∧ MapB M w1 b (putB l k v) := by
  obtain ⟨es, clock, hb, he, hst, hnd, hok, hkn⟩ := h
  obtain ⟨lt, hlt⟩ := M.key k hk
  have hc := M.law.check w false hlt
  rcases mapB_find (w := w) he hok hk with ⟨h1, h2⟩ | ⟨j, e, p, h1, h2, h3, h4, h5, h6⟩
  · refine ⟨setBlock w b (.map (es.push ⟨M.V k, .bool v, clock⟩) (clock + 1)), ?_, grown_mapB _, ?_⟩
    · simp [Instr.mapUpdate, run_underlying M.ht, MapKept.run_getObj_map hb, hc, h1, MapKept.run_setObj_map _ hb, Result.andThen, setBlock]
    · rw [putB_none h2]
      exact MapB.push v hb he hst hnd hok hkn hk h2
  · have hj : es[j]? = some e := by simpa using h2
    refine ⟨setBlock w b (.map (es.modify j fun e => { e with key := M.V k, val := .bool v }) clock), ?_, grown_mapB _, ?_⟩
    · simp [Instr.mapUpdate, run_underlying M.ht, MapKept.run_getObj_map hb, hc, h1, hj, h3, M.law.stays w hlt, MapKept.run_setObj_map _ hb, Result.andThen, setBlock]
    · rw [putB_at hkn h4 h5]
      exact MapB.setAt v hb he hst hnd hok hkn hk h2 h3 h4 h5
end
section
variable {κ : Type} [DecidableEq κ] {M : MK κ} (w : World) {ops : Array Oper} {rest : List Oper} {o : Oper} {a : Act} {K : Act → World → Prop} {Q : Exit → Act → World → Prop}
theorem wp_lookupB (m x : Operand) (hop : o.op = Op.lookup M.T m x false) (b : Nat) (l : List (κ × Bool)) (k : κ) (hm : a.eval m = .map (some b)) (hx : a.eval x = M.V k) (h : MapB M w b l) (hk : M.ok k)
    (hK : K (a.put o.dst (.bool (getB l k))) w) : o.wp Tryz.prog a w K Q := by
  unfold Oper.wp
  simp [execOp, hop, hm, hx, mapB_lookup h hk, Result.andThen]
  exact hK
theorem wpList_lookupB (hg : o.guard = none) (m x : Operand) (hop : o.op = Op.lookup M.T m x false) (b : Nat) (l : List (κ × Bool)) (k : κ) (hm : a.eval m = .map (some b)) (hx : a.eval x = M.V k) (h : MapB M w b l) (hk : M.ok k)
    (hK : wpList Tryz.prog ops Q rest (a.put o.dst (.bool (getB l k))) w) : wpList Tryz.prog ops Q (o :: rest) a w :=
  wpList_plain hg fun _ hK' => wp_lookupB w m x hop b l k hm hx h hk (hK' _ _ hK)
theorem wpList_lookupB_want (hg : Region.wanted o (yielded ops a.tmps) = true) (m x : Operand) (hop : o.op = Op.lookup M.T m x false) (b : Nat) (l : List (κ × Bool)) (k : κ) (hm : a.eval m = .map (some b)) (hx : a.eval x = M.V k) (h : MapB M w b l) (hk : M.ok k)
    (hK : wpList Tryz.prog ops Q rest (a.put o.dst (.bool (getB l k))) w) : wpList Tryz.prog ops Q (o :: rest) a w :=
  BigFrame.wpList_want hg fun _ hK' => wp_lookupB w m x hop b l k hm hx h hk (hK' _ _ hK)
theorem wp_storeB (m x y : Operand) (hop : o.op = Op.mapUpdate M.T m x y) (b : Nat) (l : List (κ × Bool)) (k : κ) (v : Bool) (hm : a.eval m = .map (some b)) (hx : a.eval x = M.V k) (hy : a.eval y = .bool v) (h : MapB M w b l) (hk : M.ok k)
    (hK : ∀ w', MapB M w' b (putB l k v) → w.grownBy w' (some b) → K (a.put o.dst undef) w') : o.wp Tryz.prog a w K Q := by
  obtain ⟨w1, hrun, hg, hm1⟩ := mapB_store v h hk
  unfold Oper.wp
  simp [execOp, hop, hm, hx, hy, hrun, Result.andThen]
  exact hK _ hm1 hg
theorem wpList_storeB (hg : o.guard = none) (m x y : Operand) (hop : o.op = Op.mapUpdate M.T m x y) (b : Nat) (l : List (κ × Bool)) (k : κ) (v : Bool) (hm : a.eval m = .map (some b)) (hx : a.eval x = M.V k) (hy : a.eval y = .bool v) (h : MapB M w b l) (hk : M.ok k)
    (hK : ∀ w', MapB M w' b (putB l k v) → w.grownBy w' (some b) → wpList Tryz.prog ops Q rest (a.put o.dst undef) w') : wpList Tryz.prog ops Q (o :: rest) a w :=
  wpList_plain hg fun _ hK' => wp_storeB w m x y hop b l k v hm hx hy h hk fun w' h1 h2 => hK' _ _ (hK w' h1 h2)
end
end Go.Proofs.YtcmmppkmkejniaaGreatDoor
