/-
  A map of the call's own, keyed by five numbers: look-up, entry and store.
  A range over a map of the call's own, keyed by five numbers: each key comes once, in some order.
  maps.Keys of a map of the call's own keyed by five numbers: its iterator gives each key once, in some order.
  slices.Collect gathers the keys of a map; slices.SortedFunc sorts them.
-/
import Derived.Test.YtfnlddloalineaaGreatDoorMem
import Derived.Maps.OwnOps
import Derived.WideKeyEntry
import Derived.DeepKeys4
import Derived.Maps.Range
import Derived.Maps.RangeRun
import Derived.RangeFuncSeq
import Derived.Sort.MapsRangeIn
import Derived.OwnWalkIn
import Derived.RangeFuncNested
import Derived.RangeFuncBound
import Derived.RangeFuncCalls
import Derived.RangeFuncLeaves
import Derived.Shelf.Abstract
import Derived.Shelf.RegionOpen
import Derived.WalkKit
import Derived.TacticsInMore
import Derived.LoopNIn
import Derived.LoopIn
import Derived.RangeFuncFrom
import Derived.RangeFuncStops
import Derived.RangeFuncOne
import Derived.Maps.AppendAt
namespace Go.Proofs.YtfnlddloalineaaGreatDoor
open Go.RowKit Go.ChangeMaps
open Go.Maps (Keyed)
set_option linter.unusedVariables false
set_option linter.unusedSimpArgs false
set_option maxRecDepth 100000
theorem laidOut5 : laidOutB Tryz.prog = true := by kernel_rfl
theorem row5 : (117 : TypeId) < Tryz.prog.types.size := of_decide_eq_true (by kernel_rfl)
theorem wide5 : (match Tryz.prog.underlying 117 with | some (.array _ _) | some (.struct _) => true | _ => false) = true := by rw [Tryz.underlying117]
theorem law5 : Keyed Tryz.prog 117 := Keyed.of_law (deep_law_laid laidOut5 (m := 2) (by omega) row5 (by kernel_rfl) wide5)
/-- a number that an int holds -/
def okI (x : Int) : Prop := (Lit.int .i64 x).wf = true
theorem cells5 : Tryz.prog.cellsOf 117 = 5 := by kernel_rfl
theorem cells1 : Tryz.prog.cellsOf 3 = 1 := by kernel_rfl
theorem keyT5 : Tryz.prog.keyType 117 = true := by kernel_rfl
theorem key5 {a b c d e : Int} (ha : okI a) (hb : okI b) (hc : okI c) (hd : okI d) (he : okI e) : ∃ lt, keyOf Tryz.prog 117 (.agg #[.int .i64 a, .int .i64 b, .int .i64 c, .int .i64 d, .int .i64 e]) = some lt := by
  unfold okI at *
  obtain ⟨n, hn⟩ : ∃ n, Tryz.prog.types.size = n + 1 := ⟨Tryz.prog.types.size - 1, by have : 0 < Tryz.prog.types.size := of_decide_eq_true (by kernel_rfl); omega⟩
  simp [keyOf, Tryz.underlying117, keyT5, Value.formed, cells5, Program.keyLits, hn, Value.cells, cells1, Tryz.underlying3, List.range_succ, ha, hb, hc, hd, he]
structure K5 where
  a : Int
  b : Int
  c : Int
  d : Int
  e : Int
deriving DecidableEq
instance : Inhabited K5 := ⟨⟨0, 0, 0, 0, 0⟩⟩
def k5V (k : K5) : Value := .agg #[.int .i64 k.a, .int .i64 k.b, .int .i64 k.c, .int .i64 k.d, .int .i64 k.e]
def okK (k : K5) : Prop := okI k.a ∧ okI k.b ∧ okI k.c ∧ okI k.d ∧ okI k.e
def k5C (k : K5) : List Value := [.int .i64 k.a, .int .i64 k.b, .int .i64 k.c, .int .i64 k.d, .int .i64 k.e]
theorem k5V_inj {k k' : K5} (h : k5V k = k5V k') : k = k' := by
  obtain ⟨a, b, c, d, e⟩ := k
  obtain ⟨a', b', c', d', e'⟩ := k'
  unfold k5V at h
  simp only [Value.agg.injEq, Array.mk.injEq, List.cons.injEq, Value.int.injEq, true_and, and_true] at h
  obtain ⟨rfl, rfl, rfl, rfl, rfl⟩ := h
  rfl
theorem key_of {k : K5} (h : okK k) : ∃ lt, keyOf Tryz.prog 117 (k5V k) = some lt := key5 h.1 h.2.1 h.2.2.1 h.2.2.2.1 h.2.2.2.2
/-- what a list of pairs has at a key; 0: nothing -/
def getM : List (K5 × Int) → K5 → Int
  | [], _ => 0
  | p :: r, k => if p.1 = k then p.2 else getM r k
/-- with a key's value set: where the key stands, or behind the last -/
def putM : List (K5 × Int) → K5 → Int → List (K5 × Int)
  | [], k, v => [(k, v)]
  | p :: r, k, v => if p.1 = k then (k, v) :: r else p :: putM r k v
/-- block b is a map with these pairs, in the order in which they came -/
def MapS (w : World) (b : Nat) (l : List (K5 × Int)) : Prop := ∃ es clock, w.heap[b]? = some (.map es clock) ∧ es.toList.map (fun e => (e.key, e.val)) = l.map (fun p => (k5V p.1, Value.int .i64 p.2)) ∧ (∀ e, e ∈ es.toList → e.born < clock) ∧ (es.toList.map (·.born)).Nodup ∧ (∀ p, p ∈ l → okK p.1) ∧ (l.map (·.1)).Nodup
theorem MapS.made (w : World) : MapS (w.alloc (.map #[] 0)) w.heap.size [] := ⟨#[], 0, (MapKept.heap_alloc w _).1, rfl, by simp, by simp, by simp, by simp⟩
theorem MapS.lt {w : World} {b : Nat} {l : List (K5 × Int)} (h : MapS w b l) : b < w.heap.size := by
  obtain ⟨es, clock, hb, _⟩ := h
  exact (Array.getElem?_eq_some_iff.1 hb).1
theorem MapS.kept {w w' : World} {b : Nat} {l : List (K5 × Int)} (h : MapS w b l) (hk : w'.heap[b]? = w.heap[b]?) : MapS w' b l := by
  obtain ⟨es, clock, hb, r⟩ := h
  exact ⟨es, clock, hk.trans hb, r⟩
theorem MapS.below {w w' : World} {b B : Nat} {l : List (K5 × Int)} (h : MapS w b l) (hb : Below B w w') (hB : b < B) : MapS w' b l := h.kept (hb.block b hB)
theorem ents_at {es : List MapEntry} {l : List (K5 × Int)} (h : es.map (fun e => (e.key, e.val)) = l.map (fun p => (k5V p.1, Value.int .i64 p.2))) {j : Nat} {e : MapEntry} (he : es[j]? = some e) : ∃ p, l[j]? = some p ∧ e.key = k5V p.1 ∧ e.val = .int .i64 p.2 := by
  have h1 : (es.map (fun e => (e.key, e.val)))[j]? = some (e.key, e.val) := by rw [List.getElem?_map, he]; rfl
  rw [h, List.getElem?_map] at h1
  cases hp : l[j]? with
  | none => rw [hp] at h1; cases h1
  | some p =>
    rw [hp] at h1
    simp only [Option.map_some, Option.some.injEq, Prod.mk.injEq] at h1
    exact ⟨p, rfl, h1.1.symm, h1.2.symm⟩
theorem ents_back {es : List MapEntry} {l : List (K5 × Int)} (h : es.map (fun e => (e.key, e.val)) = l.map (fun p => (k5V p.1, Value.int .i64 p.2))) {p : K5 × Int} (hp : p ∈ l) : ∃ e, e ∈ es ∧ e.key = k5V p.1 := by
  have h1 : (k5V p.1, Value.int .i64 p.2) ∈ l.map (fun p => (k5V p.1, Value.int .i64 p.2)) := List.mem_map.2 ⟨p, hp, rfl⟩
  rw [← h] at h1
  obtain ⟨e, he, e1⟩ := List.mem_map.1 h1
  simp only [Prod.mk.injEq] at e1
  exact ⟨e, he, e1.1⟩
theorem getM_none : ∀ {l : List (K5 × Int)} {k : K5}, (∀ p, p ∈ l → p.1 ≠ k) → getM l k = 0 := by
  intro l
  induction l with
  | nil => intro k _; rfl
  | cons p r ih =>
    intro k h
    rw [getM, if_neg (h p (by simp)), ih (fun q hq => h q (List.mem_cons_of_mem _ hq))]
theorem getM_at : ∀ {l : List (K5 × Int)} {k : K5} {j : Nat} {p : K5 × Int}, (l.map (·.1)).Nodup → l[j]? = some p → p.1 = k → getM l k = p.2 := by
  intro l
  induction l with
  | nil => intro k j p _ h; simp at h
  | cons q r ih =>
    intro k j p hn h hk
    rw [List.map_cons, List.nodup_cons] at hn
    cases j with
    | zero =>
      simp only [List.getElem?_cons_zero, Option.some.injEq] at h
      subst h
      rw [getM, if_pos hk]
    | succ j =>
      simp only [List.getElem?_cons_succ] at h
      have hne : q.1 ≠ k := fun e => hn.1 (by rw [e, ← hk]; exact List.mem_map.2 ⟨p, List.mem_of_getElem? h, rfl⟩)
      rw [getM, if_neg hne, ih hn.2 h hk]
theorem putM_none : ∀ {l : List (K5 × Int)} {k : K5} {v : Int}, (∀ p, p ∈ l → p.1 ≠ k) → putM l k v = l ++ [(k, v)] := by
  intro l
  induction l with
  | nil => intro k v _; rfl
  | cons p r ih =>
    intro k v h
    rw [putM, if_neg (h p (by simp)), ih (fun q hq => h q (List.mem_cons_of_mem _ hq))]; rfl
theorem putM_at : ∀ {l : List (K5 × Int)} {k : K5} {v : Int} {j : Nat} {p : K5 × Int}, (l.map (·.1)).Nodup → l[j]? = some p → p.1 = k → putM l k v = l.set j (k, v) := by
  intro l
  induction l with
  | nil => intro k v j p _ h; simp at h
  | cons q r ih =>
    intro k v j p hn h hk
    rw [List.map_cons, List.nodup_cons] at hn
    cases j with
    | zero =>
      simp only [List.getElem?_cons_zero, Option.some.injEq] at h
      subst h
      rw [putM, if_pos hk]; rfl
    | succ j =>
      simp only [List.getElem?_cons_succ] at h
      have hne : q.1 ≠ k := fun e => hn.1 (by rw [e, ← hk]; exact List.mem_map.2 ⟨p, List.mem_of_getElem? h, rfl⟩)
      rw [putM, if_neg hne, ih hn.2 h hk]; rfl
theorem zero5 (w : World) : (zeroValue 3).run Tryz.prog w = .ok (.int .i64 0) w := by kernel_rfl
theorem map_find {w : World} {es : Array MapEntry} {l : List (K5 × Int)} {k : K5} (he : es.toList.map (fun e => (e.key, e.val)) = l.map (fun p => (k5V p.1, Value.int .i64 p.2))) (hok : ∀ p, p ∈ l → okK p.1) (hk : okK k) :
    ((Instr.findKey 117 (k5V k) es.toList).run Tryz.prog w = .ok none w ∧ (∀ p, p ∈ l → p.1 ≠ k)) ∨ ∃ j e p, (Instr.findKey 117 (k5V k) es.toList).run Tryz.prog w = .ok (some (j, e.val)) w ∧ es.toList[j]? = some e ∧ e.key = k5V k ∧ l[j]? = some p ∧ p.1 = k ∧ e.val = .int .i64 p.2 := by
  obtain ⟨lt, hlt⟩ := key_of hk
  have hkeys : ∀ e, e ∈ es.toList → ∃ l, keyOf Tryz.prog 117 e.key = some l := fun e hm => by
    obtain ⟨j, hj⟩ := List.getElem?_of_mem hm
    obtain ⟨p, hp, h1, _⟩ := ents_at he hj
    rw [h1]
    exact key_of (hok p (List.mem_of_getElem? hp))
  rcases law5.find w hlt es.toList hkeys with ⟨h1, h2⟩ | ⟨j, e, h1, h2, h3⟩
  · refine .inl ⟨h1, fun p hp e1 => ?_⟩
    obtain ⟨e, hm, h3⟩ := ents_back he hp
    exact h2 e hm (by rw [h3, e1])
  · obtain ⟨p, hp, h4, h5⟩ := ents_at he h2
    exact .inr ⟨j, e, p, h1, h2, h3, hp, k5V_inj (h4.symm.trans h3), h5⟩
theorem map_lookup {w : World} {b : Nat} {l : List (K5 × Int)} {k : K5} (h : MapS w b l) (hk : okK k) : (Instr.lookup 116 (.map (some b)) (k5V k) false).run Tryz.prog w = .ok (.int .i64 (getM l k)) w := by
  obtain ⟨es, clock, hb, he, hst, hnd, hok, hkn⟩ := h
  obtain ⟨lt, hlt⟩ := key_of hk
  have hc := law5.check w es.isEmpty hlt
  rcases map_find (w := w) he hok hk with ⟨h1, h2⟩ | ⟨j, e, p, h1, h2, h3, h4, h5, h6⟩
  · rw [getM_none h2]
    simp [Instr.lookup, run_underlying Tryz.underlying116, MapKept.run_getObj_map hb, hc, h1, Result.andThen]
  · rw [getM_at hkn h4 h5]
    simp [Instr.lookup, run_underlying Tryz.underlying116, MapKept.run_getObj_map hb, hc, h1, h6, Result.andThen]
theorem grown_map {w : World} {b : Nat} (o : Obj) : w.grownBy (setBlock w b o) (some b) :=
  ⟨rfl, rfl, rfl, by simp [setBlock], fun k hk hne => by
    have hkb : b ≠ k := fun e => hne (by rw [e])
    simp [setBlock, Array.getElem?_setIfInBounds_ne hkb]⟩
theorem set_here {w : World} {b : Nat} {o' : Obj} (h : w.heap[b]? = some o') (o : Obj) : (setBlock w b o).heap[b]? = some o := by
  have hb : b < w.heap.size := (Array.getElem?_eq_some_iff.1 h).1
  simp [setBlock, hb]
theorem MapS.push {w : World} {b : Nat} {l : List (K5 × Int)} {es : Array MapEntry} {clock : Nat} {k : K5} (v : Int) {o' : Obj} (hb : w.heap[b]? = some o') (he : es.toList.map (fun e => (e.key, e.val)) = l.map (fun p => (k5V p.1, Value.int .i64 p.2))) (hst : ∀ e, e ∈ es.toList → e.born < clock) (hnd : (es.toList.map (·.born)).Nodup) (hok : ∀ p, p ∈ l → okK p.1) (hkn : (l.map (·.1)).Nodup) (hk : okK k) (hnew : ∀ p, p ∈ l → p.1 ≠ k) :
    MapS (setBlock w b (.map (es.push ⟨k5V k, .int .i64 v, clock⟩) (clock + 1))) b (l ++ [(k, v)]) := by
  refine ⟨_, _, set_here hb _, ?_, ?_, ?_, ?_, ?_⟩
  · rw [Array.toList_push, List.map_append, List.map_append, he]; rfl
  · intro e hm
    rw [Array.toList_push, List.mem_append, List.mem_singleton] at hm
    rcases hm with hm | rfl
    · have := hst e hm; omega
    · show clock < clock + 1; omega
  · rw [Array.toList_push, List.map_append]
    refine List.nodup_append.2 ⟨hnd, by simp, fun a ha c hc e1 => ?_⟩
    simp only [List.map_cons, List.map_nil, List.mem_singleton] at hc
    obtain ⟨x, hx, rfl⟩ := List.mem_map.1 ha
    have := hst x hx
    omega
  · intro p hp
    rcases List.mem_append.1 hp with hp | hp
    · exact hok p hp
    · rw [List.mem_singleton] at hp; rw [hp]; exact hk
  · rw [List.map_append]
    refine List.nodup_append.2 ⟨hkn, by simp, fun a ha c hc e1 => ?_⟩
    simp only [List.map_cons, List.map_nil, List.mem_singleton] at hc
    obtain ⟨x, hx, rfl⟩ := List.mem_map.1 ha
    exact hnew x hx (e1.trans hc)
theorem MapS.setAt {w : World} {b : Nat} {l : List (K5 × Int)} {es : Array MapEntry} {clock : Nat} {k : K5} (v : Int) {o' : Obj} {j : Nat} {e0 : MapEntry} {p : K5 × Int} (hb : w.heap[b]? = some o') (he : es.toList.map (fun e => (e.key, e.val)) = l.map (fun p => (k5V p.1, Value.int .i64 p.2))) (hst : ∀ e, e ∈ es.toList → e.born < clock) (hnd : (es.toList.map (·.born)).Nodup) (hok : ∀ p, p ∈ l → okK p.1) (hkn : (l.map (·.1)).Nodup) (hk : okK k) (hj : es.toList[j]? = some e0) (hkey : e0.key = k5V k) (hp : l[j]? = some p) (hpk : p.1 = k) :
    MapS (setBlock w b (.map (es.modify j fun e => { e with val := .int .i64 v }) clock)) b (l.set j (k, v)) := by
  have hset : (es.modify j fun e => { e with val := .int .i64 v }).toList = es.toList.set j { e0 with val := .int .i64 v } := by
    rw [Array.toList_modify, modify_eq_set _ _ _ _ hj]
  refine ⟨_, _, set_here hb _, ?_, ?_, ?_, ?_, ?_⟩
  · rw [hset, List.map_set, List.map_set, he]
    show List.set _ j (e0.key, Value.int .i64 v) = List.set _ j (k5V k, Value.int .i64 v)
    rw [hkey]
  · intro e hm
    rw [hset] at hm
    rcases List.mem_or_eq_of_mem_set hm with hm | rfl
    · exact hst e hm
    · exact hst e0 (List.mem_of_getElem? hj)
  · rw [hset, List.map_set]
    have hself : (es.toList.map (·.born)).set j e0.born = es.toList.map (·.born) := Go.WideElems.set_self _ _ _ (by rw [List.getElem?_map, hj]; rfl)
    show ((es.toList.map (·.born)).set j e0.born).Nodup
    rw [hself]; exact hnd
  · intro q hq
    rcases List.mem_or_eq_of_mem_set hq with hq | rfl
    · exact hok q hq
    · exact hk
  · rw [List.map_set]
    have hself : (l.map (·.1)).set j k = l.map (·.1) := Go.WideElems.set_self _ _ _ (by rw [List.getElem?_map, hp]; show some p.1 = some k; rw [hpk])
    show ((l.map (·.1)).set j k).Nodup
    rw [hself]; exact hkn
theorem map_entry {w : World} {b : Nat} {l : List (K5 × Int)} {k : K5} (h : MapS w b l) (hk : okK k) :
    ∃ (st : Nat) (w1 : World), (Instr.mapEntry 116 (.map (some b)) (k5V k)).run Tryz.prog w = .ok (.tuple #[.int .i64 (getM l k), goInt st]) w1 ∧ w.grownBy w1 (some b) ∧ (∃ l1, MapS w1 b l1 ∧ getM l1 k = getM l k) ∧
      ∀ (w2 : World) (v : Int), w2.heap[b]? = w1.heap[b]? → ∃ w3, (Instr.entryStore 116 (.map (some b)) (goInt st) (.int .i64 v)).run Tryz.prog w2 = .ok () w3 ∧ w2.grownBy w3 (some b) ∧ MapS w3 b (putM l k v) := by
  obtain ⟨es, clock, hb, he, hst, hnd, hok, hkn⟩ := h
  obtain ⟨lt, hlt⟩ := key_of hk
  have hc := law5.check w false hlt
  rcases map_find (w := w) he hok hk with ⟨h1, h2⟩ | ⟨j, e, p, h1, h2, h3, h4, h5, h6⟩
  · rw [getM_none h2]
    have hM := MapS.push (v := 0) hb he hst hnd hok hkn hk h2
    have hkn2 : getM (l ++ [(k, 0)]) k = 0 := by
      obtain ⟨_, _, _, _, _, _, _, hn⟩ := hM
      exact getM_at (j := l.length) (p := (k, 0)) hn (by simp) rfl
    refine ⟨clock, setBlock w b (.map (es.push ⟨k5V k, .int .i64 0, clock⟩) (clock + 1)), ?_, grown_map _, ⟨_, hM, hkn2⟩, fun w2 v hw2 => ?_⟩
    · simp [Instr.mapEntry, run_underlying Tryz.underlying116, MapKept.run_getObj_map hb, hc, h1, zero5, MapKept.run_setObj_map _ hb, Result.andThen, setBlock]
    · have hb2 : w2.heap[b]? = some (.map (es.push ⟨k5V k, .int .i64 0, clock⟩) (clock + 1)) := hw2.trans (set_here hb _)
      have hidx : (es.push ⟨k5V k, .int .i64 0, clock⟩).findIdx? (fun e => ((e.born : Nat) : Int) == ((clock : Nat) : Int)) = some es.size := by
        rw [Go.WideElems.findIdx_arr]
        have := Go.WideElems.findIdx_born (l := (es.push ⟨k5V k, .int .i64 0, clock⟩).toList) (j := es.size) (e0 := ⟨k5V k, .int .i64 0, clock⟩) (by
          simp only [Array.toList_push, List.map_append, List.map_cons, List.map_nil]
          refine List.nodup_append.2 ⟨hnd, by simp, fun a ha c hc e1 => ?_⟩
          simp only [List.mem_singleton] at hc
          obtain ⟨x, hx, rfl⟩ := List.mem_map.1 ha
          have := hst x hx
          omega) (by simp)
        exact this
      have hmod : (es.push ⟨k5V k, .int .i64 0, clock⟩).modify es.size (fun e => { e with val := .int .i64 v }) = es.push ⟨k5V k, .int .i64 v, clock⟩ := by
        apply Array.ext'
        rw [Array.toList_modify, Array.toList_push, Array.toList_push, ← Array.length_toList, Go.WideElems.modify_last]
      refine ⟨setBlock w2 b (.map (es.push ⟨k5V k, .int .i64 v, clock⟩) (clock + 1)), ?_, grown_map _, ?_⟩
      · simp [Instr.entryStore, MapKept.run_getObj_map hb2, asInt, asIntOf, goInt, hidx, hmod, MapKept.run_setObj_map _ hb2, Result.andThen, setBlock]
      · rw [putM_none h2]
        exact MapS.push v hb2 he hst hnd hok hkn hk h2
  · rw [getM_at hkn h4 h5]
    have hj : es[j]? = some e := by simpa using h2
    have hsame : es.modify j (fun e => { e with key := k5V k }) = es := by
      apply Array.ext'
      rw [Array.toList_modify, modify_eq_set _ _ _ _ h2]
      have : ({ e with key := k5V k } : MapEntry) = e := by rw [← h3]
      rw [this]
      exact Go.WideElems.set_self _ _ _ h2
    have hM : MapS (setBlock w b (.map es clock)) b l := ⟨es, clock, set_here hb _, he, hst, hnd, hok, hkn⟩
    refine ⟨e.born, setBlock w b (.map es clock), ?_, grown_map _, ⟨l, hM, getM_at hkn h4 h5⟩, fun w2 v hw2 => ?_⟩
    · simp [Instr.mapEntry, run_underlying Tryz.underlying116, MapKept.run_getObj_map hb, hc, h1, hj, h3, h6, law5.stays w hlt, hsame, MapKept.run_setObj_map _ hb, Result.andThen, setBlock]
    · have hb2 : w2.heap[b]? = some (.map es clock) := hw2.trans (set_here hb _)
      have hidx : es.findIdx? (fun x => ((x.born : Nat) : Int) == ((e.born : Nat) : Int)) = some j := by
        rw [Go.WideElems.findIdx_arr]
        exact Go.WideElems.findIdx_born hnd h2
      refine ⟨setBlock w2 b (.map (es.modify j fun x => { x with val := .int .i64 v }) clock), ?_, grown_map _, ?_⟩
      · simp [Instr.entryStore, MapKept.run_getObj_map hb2, asInt, asIntOf, goInt, hidx, MapKept.run_setObj_map _ hb2, Result.andThen, setBlock]
      · rw [putM_at hkn h4 h5]
        exact MapS.setAt v hb2 he hst hnd hok hkn hk h2 h3 h4 h5
/-- a first pair is laid into an empty map -/
theorem map_first {w : World} {b : Nat} {k : K5} (v : Int) (h : MapS w b []) (hk : okK k) : ∃ w1, (Instr.mapUpdate 116 (.map (some b)) (k5V k) (.int .i64 v)).run Tryz.prog w = .ok () w1 ∧ w.grownBy w1 (some b) ∧ MapS w1 b [(k, v)] := by
  obtain ⟨es, clock, hb, he, hst, hnd, hok, hkn⟩ := h
  obtain ⟨lt, hlt⟩ := key_of hk
  have hc := law5.check w false hlt
  rcases map_find (w := w) he hok hk with ⟨h1, h2⟩ | ⟨j, e, p, h1, h2, h3, h4, h5, h6⟩
  · refine ⟨setBlock w b (.map (es.push ⟨k5V k, .int .i64 v, clock⟩) (clock + 1)), ?_, grown_map _, MapS.push v hb he hst hnd hok hkn hk h2⟩
    simp [Instr.mapUpdate, run_underlying Tryz.underlying116, MapKept.run_getObj_map hb, hc, h1, MapKept.run_setObj_map _ hb, Result.andThen, setBlock]
  · simp at h4
end Go.Proofs.YtfnlddloalineaaGreatDoor
namespace Go.Proofs.YtfnlddloalineaaGreatDoor
open Go.RowKit Go.ChangeMaps
open Go.Maps (Keyed)
set_option linter.unusedVariables false
set_option linter.unusedSimpArgs false
set_option maxRecDepth 100000
/-- a range over a map under way: ss: the keys that have come; cnt: how many entries are left -/
def RangeS (w : World) (b r : Nat) (l : List (K5 × Int)) (ss : List K5) (cnt : Nat) : Prop :=
  ∃ es clock since seen c0, w.heap[b]? = some (.map es clock) ∧ es.toList.map (fun e => (e.key, e.val)) = l.map (fun p => (k5V p.1, Value.int .i64 p.2)) ∧ (es.toList.map (·.born)).Nodup ∧ (l.map (·.1)).Nodup ∧
    w.heap[r]? = some (.mapIter (some b) since seen c0) ∧ (∀ x ∈ es.toList, x.born < since) ∧ since ≤ c0 ∧ since ≤ clock ∧ (leftOf es seen).size = cnt ∧ ss.length + cnt ≤ l.length ∧ ss.Nodup ∧ (∀ k ∈ ss, k ∈ l.map (·.1)) ∧
    (∀ e ∈ es.toList, ∀ k, e.key = k5V k → (k ∈ ss ↔ seen.contains e.born = true))
theorem RangeS.left_eq {w : World} {b r cnt : Nat} {l : List (K5 × Int)} {ss : List K5} (h : RangeS w b r l ss cnt) : w.rangeLeft b r = cnt := by
  obtain ⟨es, clock, since, seen, c0, hb, _, _, _, hr, _, _, _, hc, _⟩ := h
  simp only [World.rangeLeft, hb, hr]
  exact hc
theorem RangeS.ne {w : World} {b r cnt : Nat} {l : List (K5 × Int)} {ss : List K5} (h : RangeS w b r l ss cnt) : r ≠ b := by
  obtain ⟨es, clock, since, seen, c0, hb, _, _, _, hr, _⟩ := h
  intro e
  rw [e, hb] at hr
  cases hr
theorem RangeS.of_walks {w w' : World} {b r cnt : Nat} {l : List (K5 × Int)} {ss : List K5} (h : RangeS w b r l ss cnt) (hk : KeepsWalks w w') : RangeS w' b r l ss cnt := by
  obtain ⟨es, clock, since, seen, c0, hb, h1, h2, h3, hr, rest⟩ := h
  exact ⟨es, clock, since, seen, c0, hk.same b _ hb rfl, h1, h2, h3, hk.same r _ hr rfl, rest⟩
theorem RangeS.iter_walk {w : World} {b r cnt : Nat} {l : List (K5 × Int)} {ss : List K5} (h : RangeS w b r l ss cnt) : ∃ o : Obj, w.heap[r]? = some o ∧ o.isWalk = true := by
  obtain ⟨es, clock, since, seen, c0, _, _, _, _, hr, _⟩ := h
  exact ⟨_, hr, rfl⟩
theorem RangeS.len {w : World} {b r cnt : Nat} {l : List (K5 × Int)} {ss : List K5} (h : RangeS w b r l ss cnt) : ss.length + cnt ≤ l.length := by
  obtain ⟨es, clock, since, seen, c0, _, _, _, _, _, _, _, _, _, h, _⟩ := h
  exact h
theorem RangeS.nodup {w : World} {b r cnt : Nat} {l : List (K5 × Int)} {ss : List K5} (h : RangeS w b r l ss cnt) : ss.Nodup ∧ ∀ k ∈ ss, k ∈ l.map (·.1) := by
  obtain ⟨es, clock, since, seen, c0, _, _, _, _, _, _, _, _, _, _, h, h', _⟩ := h
  exact ⟨h, h'⟩
theorem MapS.range {w : World} {b : Nat} {l : List (K5 × Int)} (h : MapS w b l) :
    ∃ w', (Instr.range 116 (.map (some b))).run Tryz.prog w = .ok (.pointer (some ⟨w.heap.size, 0, none⟩)) w' ∧ RangeS w' b w.heap.size l [] l.length ∧ w.grownBy w' none ∧ w'.heap.size = w.heap.size + 1 := by
  have hlt := h.lt
  obtain ⟨es, clock, hb, he, hst, hnd, hok, hkn⟩ := h
  have hlen : es.size = l.length := by
    have := congrArg List.length he
    simpa using this
  refine ⟨_, run_range_map w 116 _ _ b es clock Tryz.underlying116 hb, ⟨es, clock, clock, #[], clock, ((MapKept.heap_alloc w _).2 b hlt).trans hb, he, hnd, hkn, (MapKept.heap_alloc w _).1, hst, Nat.le_refl _, Nat.le_refl _, ?_, by simp, by simp, by simp, by simp⟩, World.grownBy_alloc w _ none, by simp⟩
  rw [← hlen]
  simp [leftOf]
theorem RangeS.next {w : World} {b r cnt : Nat} {l : List (K5 × Int)} {ss : List K5} (h : RangeS w b r l ss cnt) (ty : TypeId) :
    (cnt = 0 ∧ (∀ k, k ∈ l.map (·.1) → k ∈ ss) ∧ (Instr.next (.pointer (some ⟨r, 0, none⟩)) false ty).run Tryz.prog w = .ok (.tuple #[.bool false]) w) ∨
    ∃ k v w' cnt', (Instr.next (.pointer (some ⟨r, 0, none⟩)) false ty).run Tryz.prog w = .ok (.tuple #[.bool true, k5V k, .int .i64 v]) w' ∧ RangeS w' b r l (ss ++ [k]) cnt' ∧ cnt' < cnt ∧ w.grownBy w' (some r) ∧ w'.heap.size = w.heap.size ∧
      (Instr.entry (.pointer (some ⟨r, 0, none⟩))).run Tryz.prog w' = .ok (.tuple #[k5V k, .int .i64 v]) w' := by
  have hne := h.ne
  obtain ⟨es, clock, since, seen, c0, hb, he, hnd, hkn, hr, hold, hsc, hsk, rfl, hlen, hsn, hsm, hsee⟩ := h
  rcases run_next_at (P := Tryz.prog) w ty r b since c0 seen es clock hr hb hold hsc with ⟨h0, hrun⟩ | ⟨e, hel, w1, hal, hrun⟩
  · refine Or.inl ⟨h0, fun k hk => ?_, hrun⟩
    obtain ⟨p, hp, rfl⟩ := List.mem_map.1 hk
    obtain ⟨x, hx, hxk⟩ := ents_back he hp
    exact (hsee x hx p.1 hxk).2 (all_seen es seen h0 x hx)
  · obtain ⟨hem, hes⟩ := mem_left hel
    obtain ⟨j, hj⟩ := List.getElem?_of_mem hem
    obtain ⟨p, hp, hkey, hval⟩ := ents_at he hj
    have hr1 : w1.heap[r]? = some (.mapIter (some b) since seen c0) := by rcases hal with rfl | rfl <;> exact hr
    have hb1 : w1.heap[b]? = some (.map es clock) := by rcases hal with rfl | rfl <;> exact hb
    have hset := MapKept.heap_set (o' := .mapIter (some b) since (seen.push e.born) clock) hr1
    have hb' : (setBlock w1 r (.mapIter (some b) since (seen.push e.born) clock)).heap[b]? = some (.map es clock) := (hset.2 b (fun e1 => hne e1.symm)).trans hb1
    have hnew : p.1 ∉ ss := fun hm => by
      have := (hsee e hem p.1 hkey).1 hm
      rw [hes] at this; cases this
    have hshr := left_shrinks es seen e hel
    have huniq : ∀ x ∈ es.toList, x.key = k5V p.1 → x = e := fun x hx hxk => by
      obtain ⟨j', hj'⟩ := List.getElem?_of_mem hx
      obtain ⟨p', hp', hkey', _⟩ := ents_at he hj'
      have e1 : p'.1 = p.1 := k5V_inj (hkey'.symm.trans hxk)
      have hlt : j < (l.map (·.1)).length := by rw [List.length_map]; exact (List.getElem?_eq_some_iff.1 hp).1
      have : j' = j := ((List.getElem?_inj hlt hkn).1 (by rw [List.getElem?_map, List.getElem?_map, hp, hp']; show some p.1 = some p'.1; rw [e1])).symm
      subst this
      rw [hj] at hj'
      exact (Option.some.inj hj').symm
    refine Or.inr ⟨p.1, p.2, _, _, by rw [hrun, hkey, hval], ⟨es, clock, since, seen.push e.born, clock, hb', he, hnd, hkn, hset.1, hold, hsk, hsk, rfl, ?_, ?_, ?_, ?_⟩, hshr, ?_, ?_, ?_⟩
    · rw [List.length_append, List.length_singleton]; omega
    · exact List.nodup_append.2 ⟨hsn, by simp, fun a ha c hc e1 => by simp only [List.mem_singleton] at hc; subst hc; exact hnew (e1 ▸ ha)⟩
    · intro k hk
      rcases List.mem_append.1 hk with hk | hk
      · exact hsm k hk
      · rw [List.mem_singleton] at hk
        rw [hk]; exact List.mem_map.2 ⟨p, List.mem_of_getElem? hp, rfl⟩
    · intro x hx k hk
      rw [contains_push, List.mem_append, List.mem_singleton, hsee x hx k hk, Bool.or_eq_true, beq_iff_eq]
      constructor
      · rintro (h1 | h1)
        · exact .inl h1
        · right; rw [h1] at hk; rw [huniq x hx hk]
      · rintro (h1 | h1)
        · exact .inl h1
        · right
          have := born_inj hnd hx hem h1
          subst this
          exact k5V_inj (hk.symm.trans hkey)
    · rcases hal with rfl | rfl <;> exact ⟨rfl, rfl, rfl, by simp [setBlock], fun i _ hi => hset.2 i (fun e1 => hi (by rw [e1]))⟩
    · rcases hal with rfl | rfl <;> simp [setBlock]
    · have := run_entry_at (P := Tryz.prog) _ r b since seen es clock e hset.1 hb' hem hnd
      rw [hkey, hval] at this
      exact this
section
variable {F : Fence} {n : Nat} (w : World) {ops : Array Oper} {rest : List Oper} {o : Oper} {a : Act} {Q : Exit → Act → World → Prop}
theorem in_range5 (hg : o.guard = none) (m : Operand) (hop : o.op = Op.range 116 m) (b : Nat) (l : List (K5 × Int)) (hm : a.eval m = .map (some b)) (h : MapS w b l)
    (hK : ∀ w', RangeS w' b w.heap.size l [] l.length → w.grownBy w' none → w'.heap.size = w.heap.size + 1 → wpListIn F n Tryz.prog ops Q rest (a.put o.dst (.pointer (some ⟨w.heap.size, 0, none⟩))) w') :
    wpListIn F n Tryz.prog ops Q (o :: rest) a w := by
  refine wpListIn_plain hg fun K' hK' => ?_
  obtain ⟨w', hrun, r1, r2, r3⟩ := h.range
  unfold Oper.wpIn
  refine ⟨?_, ?_⟩
  · simp [Oper.about, hop]
  · rw [Oper.semAt_plain F _ _ (by rw [hop]; intro c hc'; cases hc')]
    simp [execOp, hop, hm, hrun, Result.andThen]
    exact hK' _ _ (hK w' r1 r2 r3)
theorem in_next5 (hg : o.guard = none) (it : Operand) (hop : o.op = Op.next it false) (b r : Nat) (l : List (K5 × Int)) (ss : List K5) (cnt : Nat) (hit : a.eval it = .pointer (some ⟨r, 0, none⟩)) (h : RangeS w b r l ss cnt)
    (hDone : cnt = 0 → (∀ k, k ∈ l.map (·.1) → k ∈ ss) → wpListIn F n Tryz.prog ops Q rest (a.put o.dst (.tuple #[.bool false])) w)
    (hMore : ∀ (k : K5) (v : Int) (w' : World) (cnt' : Nat), RangeS w' b r l (ss ++ [k]) cnt' → cnt' < cnt → w.grownBy w' (some r) → w'.heap.size = w.heap.size →
      (Instr.entry (.pointer (some ⟨r, 0, none⟩))).run Tryz.prog w' = .ok (.tuple #[k5V k, .int .i64 v]) w' → wpListIn F n Tryz.prog ops Q rest (a.put o.dst (.tuple #[.bool true, k5V k, .int .i64 v])) w') :
    wpListIn F n Tryz.prog ops Q (o :: rest) a w := by
  refine wpListIn_plain hg fun K' hK' => ?_
  unfold Oper.wpIn
  refine ⟨by simp [Oper.about, hop], ?_⟩
  rw [Oper.semAt_plain F _ _ (by rw [hop]; intro c hc'; cases hc')]
  rcases h.next o.type with ⟨h0, hl, hrun⟩ | ⟨k, v, w', cnt', hrun, hrg, hlt, hgr, hsz, hen⟩
  · simp [execOp, hop, hit, hrun, Result.andThen]
    exact hK' _ _ (hDone h0 hl)
  · simp [execOp, hop, hit, hrun, Result.andThen]
    exact hK' _ _ (hMore k v w' cnt' hrg hlt hgr hsz hen)
end
end Go.Proofs.YtfnlddloalineaaGreatDoor
namespace Go.Proofs.YtfnlddloalineaaGreatDoor
open Go.RowKit Go.ChangeMaps
open Go.Shelf
attribute [local go_sem] Oper.semAt_some
set_option linter.unusedVariables false
set_option linter.unusedSimpArgs false
set_option maxRecDepth 100000
set_option maxHeartbeats 2000000 in
theorem keys1_in (n : Nat) (hn : 1 ≤ n) (l Bm b : Nat) (lm : List (K5 × Int)) (J Jx : List K5 → World → Prop)
    (hY : ∀ pre x W, J pre W → pre.length < lm.length → YieldAt Fence.wide (n - 1) Tryz.prog l #[k5V x] W fun e W' =>
      (e = .returned (.bool true) ∧ J (pre ++ [x]) W' ∧ KeepsWalks W W') ∨ (e = .returned (.bool false) ∧ Jx (pre ++ [x]) W'))
    (W : World) (hJ : AbidesFrom W.heap.size J) (hm : W.cell? ⟨Bm, 0, none⟩ = some (.map (some b))) (hown : MapS W b lm) (h0 : J [] W) :
    CallsIn Fence.wide n Tryz.prog 93 #[.func (.yield l) #[] #[], .pointer (some ⟨Bm, 0, none⟩)] W fun e W' => (∃ v, e = .returned v) ∧
      ((∃ ss : List K5, (ss.Nodup ∧ ∀ k, k ∈ ss ↔ k ∈ lm.map (·.1)) ∧ J ss W') ∨ (∃ pre : List K5, pre.Nodup ∧ Jx pre W')) := by
  refine callsIn_of_wp Tryz.func93 rfl trivial ?_ rfl
  simp only [Tryz.ntmps93, List.size_toArray, List.length_cons, List.length_nil, Nat.reduceAdd, Nat.reduceSub, Array.replicate_succ, Array.replicate_zero, List.push_toArray, List.append_toArray, List.nil_append, List.cons_append]
  gi_wp2_with (first
    | (gi_at_range; refine in_range5 _ rfl _ rfl b lm rfl hown ?_; intro w0 hrg0 hg0 hs0)
    | gi_in)
  go_frame
  gi_loopw [3] (fun _ wr => ∃ (cnt : Nat) (ss : List K5), RangeS wr b W.heap.size lm ss cnt ∧ J ss wr) (fun _ wr => wr.rangeLeft b W.heap.size)
  case atStart =>
    exact ⟨_, [], hrg0, hJ [] W w0 none h0 hg0 (fun r e => by cases e)⟩
  case round =>
    obtain ⟨cnt, ss, hrg, hJs⟩ := hrel
    gi_wp2_with (first
      | (gi_at_next; refine in_next5 _ rfl _ rfl b W.heap.size lm ss cnt rfl hrg ?_ ?_)
      | gi_in)
    · intro hc0 hl0
      gi_wp2
      go_end0
      exact ⟨⟨_, rfl⟩, .inl ⟨ss, ⟨hrg.nodup.1, fun k => ⟨hrg.nodup.2 k, fun h => by obtain ⟨p, hp, e⟩ := List.mem_map.1 h; subst e; exact hl0 _ p.2 hp⟩⟩, hJs⟩⟩
    · intro x v w2 cnt2 hrg2 hlt hg2 hs2 hen
      have hJ2 : J ss w2 := hJ ss wr w2 (some W.heap.size) hJs hg2 (fun r e => by cases e; exact ⟨Nat.le_refl _, hrg.iter_walk⟩)
      have hln := hrg.len
      have hg3 := World.grownBy_alloc w2 (.cells #[.int .i64 x.a, .int .i64 x.b, .int .i64 x.c, .int .i64 x.d, .int .i64 x.e] 117) none
      have hJ3 : J ss (w2.alloc (.cells #[.int .i64 x.a, .int .i64 x.b, .int .i64 x.c, .int .i64 x.d, .int .i64 x.e] 117)) := hJ ss w2 _ none hJ2 hg3 (fun r e => by cases e)
      have hk2 := KeepsWalks.alloc w2 (.cells #[.int .i64 x.a, .int .i64 x.b, .int .i64 x.c, .int .i64 x.d, .int .i64 x.e] 117)
      obtain ⟨fn, tmps, assign, body, hy, hR⟩ := hY ss x _ hJ3 (by omega)
      clear hs2 hg3 hJ3
      unfold k5V at hen hy ⊢
      gi_wp2_with fail
      refine hR.mono ?_
      rintro e W3 (⟨rfl, hJ3, hk3⟩ | ⟨rfl, hJx3⟩)
      · gi_wp2_with fail
        have hrg3 := hrg2.of_walks (hk2.trans hk3)
        go_roundw
        case rel => exact ⟨cnt2, ss ++ [x], hrg3, hJ3⟩
        case measure => rw [hrg3.left_eq, hrg.left_eq]; exact hlt
      · gi_wp2_with fail
        refine bodyPost_ret (results_none rfl _ _ _) rfl ?_
        exact ⟨⟨_, rfl⟩, .inr ⟨ss ++ [x], hrg2.nodup.1, hJx3⟩⟩
/-- what maps.Keys hands back gives each key once -/
theorem keys_stops (n : Nat) (hn : 1 ≤ n) (Bm b : Nat) (lm : List (K5 × Int)) (w : World) (hBm : Bm < w.heap.size) (hm : w.cell? ⟨Bm, 0, none⟩ = some (.map (some b))) (hown : MapS w b lm) :
    SeqStopsK Fence.wide n Tryz.prog 93 #[.pointer (some ⟨Bm, 0, none⟩)] (fun x : K5 => #[k5V x]) KeepsWalks (fun ss => ss.Nodup ∧ ∀ k, k ∈ ss ↔ k ∈ lm.map (·.1)) (fun pre => pre.Nodup) lm.length w := fun l J Jx W hW hJ _ hY h0 =>
  keys1_in n hn l Bm b lm J Jx hY W hJ ((hW.cell (p := ⟨Bm, 0, none⟩) hBm).trans hm) (hown.below hW hown.lt) h0
theorem keys_any (mb : Nat) (w : World) :
    Calls Tryz.prog 62 #[.map (some mb)] w fun e w' => e = .returned (.func (.func 93) #[] #[.pointer (some ⟨w.heap.size, 0, none⟩)]) ∧ w' = w.alloc (.cells #[.map (some mb)] 116) := by
  go_enter Tryz.func62, Tryz.ntmps62
  go_wp2_with fail
  go_ret
  exact ⟨rfl, rfl⟩
end Go.Proofs.YtfnlddloalineaaGreatDoor
namespace Go.Proofs.YtfnlddloalineaaGreatDoor
open Go.RowKit Go.ChangeMaps
open Go.Shelf
attribute [local go_sem] Oper.semAt_some
set_option linter.unusedVariables false
set_option linter.unusedSimpArgs false
set_option maxRecDepth 100000
theorem info_k5 : (Tryz.prog.info? 117).map (fun i => (i.zero, i.size, i.bytes)) = some (some (.agg #[.int .i64 0, .int .i64 0, .int .i64 0, .int .i64 0, .int .i64 0]), 5, 40) := by kernel_rfl
theorem k5_new (W : World) (x : K5) (t : TypeId) : ∀ j u, (k5C x)[j]? = some u → (W.alloc (.cells #[.int .i64 x.a, .int .i64 x.b, .int .i64 x.c, .int .i64 x.d, .int .i64 x.e] t)).cell? ((⟨W.heap.size, 0, none⟩ : Addr).add j) = some u := by
  intro j u hj
  have h := (Blk.new W t #[.int .i64 x.a, .int .i64 x.b, .int .i64 x.c, .int .i64 x.d, .int .i64 x.e]).cell j
  have e : (⟨W.heap.size, 0, none⟩ : Addr).add j = ⟨W.heap.size, j, none⟩ := by unfold Addr.add; split <;> simp_all
  rw [e, h, ← hj]
  unfold k5C
  rw [List.getElem?_toArray]
set_option maxHeartbeats 4000000 in
/-- slices.AppendSeq(nil, maps.Keys(m)) -/
theorem appendSeq_any (Bm b : Nat) (lm : List (K5 × Int)) (w : World) (hBm : Bm < w.heap.size) (hm : w.cell? ⟨Bm, 0, none⟩ = some (.map (some b))) (hown : MapS w b lm) (hl : lm.length ≤ 100000) :
    Calls Tryz.prog 119 #[.slice none 0 0, .func (.func 93) #[] #[.pointer (some ⟨Bm, 0, none⟩)]] w fun e w' => ∃ (v : Value) (ss : List K5), e = .returned v ∧ (ss.Nodup ∧ ∀ k, k ∈ ss ↔ k ∈ lm.map (·.1)) ∧ w'.ownsRow w.heap.size 117 5 v ss.length (ss.flatMap k5C) ∧ Below w.heap.size w w' := by
  obtain ⟨i0, hi0, hz0, hz1, hz2⟩ := info_parts info_k5
  refine (callsIn_wide (n := 5)).1 ?_
  refine callsIn_of_wp_marks Tryz.func119 rfl trivial ?_ rfl
  simp only [Tryz.ntmps119, List.size_toArray, List.length_cons, List.length_nil, Nat.reduceAdd, Nat.reduceSub, Array.replicate_succ, Array.replicate_zero, List.push_toArray, List.append_toArray, List.nil_append, List.cons_append]
  gi_wp2_with fail
  obtain ⟨w1, hw1⟩ : ∃ w1, w.alloc (.cells #[.slice none 0 0] 119) = w1 := ⟨_, rfl⟩
  have hsz : w1.heap.size = w.heap.size + 1 := by rw [← hw1]; simp
  have hb1 : Below w.heap.size w w1 := by rw [← hw1]; exact (Below.refl _ w).alloc (Nat.le_refl _) _
  have hx1 : Boxed w1 w.heap.size 119 (.slice none 0 0) := by rw [← hw1]; exact Boxed.new _ _ _
  rw [hw1]
  refine wpIn_rangeFunc_ownH (encs := fun x : K5 => #[k5V x]) rfl (by omega) (gf := 93) (lb := #[.pointer (some ⟨Bm, 0, none⟩)]) rfl trivial (enters_of Tryz.func93 (by kernel_rfl) rfl)
    (keys_stops 4 (by omega) Bm b lm w hBm hm hown) walksK_t walksK_b hb1 (fun _ => rfl)
    (fun pre W => (∃ v, Boxed W w.heap.size 119 v ∧ W.ownsRow w.heap.size 117 5 v pre.length (pre.flatMap k5C) ∧ True) ∧ Below w.heap.size w W) (fun _ _ _ => False)
    (OwnFrom.and (Own.from (holdsRow_own w.heap.size w.heap.size 119 117 5 (fun pre : List K5 => pre.length) (fun pre => pre.flatMap k5C) (fun _ _ => True)) _) (ownFrom_below (Nat.le_refl _) (by omega)))
    (fun c s W W' row h => h.elim) ⟨⟨_, hx1, World.ownsRow_nil _ _ _ _, trivial⟩, hb1⟩
    (fun x a' W => ∃ Bx, w.heap.size ≤ Bx ∧ Bx ≠ w.heap.size ∧ W.heap[Bx]? = some (.cells #[.int .i64 x.a, .int .i64 x.b, .int .i64 x.c, .int .i64 x.d, .int .i64 x.e] 117 (0, 0)) ∧ a' = { tmps := #[.slice none 0 0, .func (.func 93) #[] #[.pointer (some ⟨Bm, 0, none⟩)], .pointer (some ⟨w.heap.size, 0, none⟩), undef, .slice none 0 0, .pointer (some ⟨Bx, 0, none⟩), .func (.func 93) #[] #[.pointer (some ⟨Bm, 0, none⟩)], .agg #[.int .i64 x.a, .int .i64 x.b, .int .i64 x.c, .int .i64 x.d, .int .i64 x.e], undef, undef, undef, undef, undef], defers := [] })
    (fun x a' s W W' row h hg hr => by
      obtain ⟨Bx, h1, h2, h3, h4⟩ := h
      refine ⟨Bx, h1, h2, (hg.block Bx (Array.getElem?_eq_some_iff.1 h3).1 (fun e => ?_)).trans h3, h4⟩
      obtain ⟨_, o, ho, hc⟩ := hr Bx e.symm
      rw [h3] at ho; cases ho; cases hc) ?assign ?body ?done ?stop
  case assign =>
    rintro l pre x W K ⟨⟨v, hv, hrow, _⟩, hB⟩ hK
    have hvl := hv.lt
    have hk := World.alloc_heap_new W (.cells #[.int .i64 x.a, .int .i64 x.b, .int .i64 x.c, .int .i64 x.d, .int .i64 x.e] 117)
    have hkk := KeepsOthers.alloc W (.cells #[.int .i64 x.a, .int .i64 x.b, .int .i64 x.c, .int .i64 x.d, .int .i64 x.e] 117)
    have hKF := Lib.hid (hK _ _ (hkk.from _) hkk.walks ⟨⟨v, hv.alloc _, hrow.alloc _, trivial⟩, hB.alloc hB.size _⟩ ⟨W.heap.size, by omega, by omega, hk, rfl⟩)
    clear hK hk hkk hrow hB hv
    unfold k5V
    gi_wp2_with fail
    exact hKF.out
  case body =>
    rintro l pre x a' W hl ⟨r, hr⟩ ⟨⟨v, hv, hrow, _⟩, hB⟩ ⟨Bx, hx1, hx2, hx3, rfl⟩ hlt
    have hbk : Blk W Bx 117 #[.int .i64 x.a, .int .i64 x.b, .int .i64 x.c, .int .i64 x.d, .int .i64 x.e] := hx3
    have c0 := hbk.cell 0
    have c1 := hbk.cell 1
    have c2 := hbk.cell 2
    have c3 := hbk.cell 3
    have c4 := hbk.cell 4
    simp only [List.getElem?_toArray, List.getElem?_cons_zero, List.getElem?_cons_succ] at c0 c1 c2 c3 c4
    have hc := hv.cell
    have hs := hB.size
    have HB := Lib.hid hB
    clear hx3 hbk hr hB
    gi_wp2_with (gi_at_builtin; refine wpListIn_append_own _ rfl _ _ 119 rfl w.heap.size 117 i0 _ 5 40 Tryz.underlying119 hi0 hz0 hz1 hz2 rfl (by decide) _ pre.length (pre.flatMap k5C) rfl (hrow.alloc _) ⟨W.heap.size, 0, none⟩ 1 1 (k5C x) rfl rfl (k5_new _ _ _) (by simp [k5C, Value.oneCell']) (by simp only [maxLen]; omega) (by omega) (by simp only [World.size_alloc]; omega) ?_; intro v' w3 hown' hgrow _; obtain ⟨g', cap', rfl⟩ := ownsRow_succ hown'; obtain ⟨hv1, hv2, hr2, hk2, hb2⟩ := hv.appended (by decide) hrow hs (Nat.le_refl _) hown' hgrow; have hc1 := hv1.cell; have hf1 := hv1.frozen)
    refine ⟨hk2.from _, hk2.walks, ⟨_, hv2, ?_, trivial⟩, HB.out.trans hb2⟩
    rw [List.length_append, List.length_singleton, List.flatMap_append, List.flatMap_singleton]
    exact hr2
  case done =>
    rintro D ss W hD ⟨hnd, hmem⟩ ⟨⟨v, hv, hrow, _⟩, hB⟩ hK
    have hc := hv.cell
    have HR := Lib.hid (And.intro hrow (And.intro hB hD))
    clear hrow hB hx1 hb1
    gi_wp2_with fail
    refine ⟨by simp, .inl ⟨_, _, rfl, run_takeDeferred hK, ?_⟩⟩
    obtain ⟨r1, r2, r3⟩ := HR.out
    exact ⟨_, results_tmp rfl _ _ _, v, ss, rfl, ⟨hnd, hmem⟩, ownsRow_putObj r1 _ hK rfl, r2.trans (belowK_b (w := w) (Nat.le_refl _) W D _ _ (by omega) hK rfl rfl)⟩
  case stop =>
    rintro D c pre W _ _ h _
    exact h.elim
theorem collect_any (Bm b : Nat) (lm : List (K5 × Int)) (w : World) (hBm : Bm < w.heap.size) (hm : w.cell? ⟨Bm, 0, none⟩ = some (.map (some b))) (hown : MapS w b lm) (hl : lm.length ≤ 100000) :
    Calls Tryz.prog 91 #[.func (.func 93) #[] #[.pointer (some ⟨Bm, 0, none⟩)]] w fun e w' => ∃ (v : Value) (ss : List K5), e = .returned v ∧ (ss.Nodup ∧ ∀ k, k ∈ ss ↔ k ∈ lm.map (·.1)) ∧ w'.ownsRow w.heap.size 117 5 v ss.length (ss.flatMap k5C) ∧ Below w.heap.size w w' := by
  have HA := Lib.hid (appendSeq_any Bm b lm w hBm hm hown hl)
  clear hm hown
  go_enter Tryz.func91, Tryz.ntmps91
  go_wp2_with fail
  refine HA.out.mono ?_
  rintro e w' ⟨v, ss, rfl, hd, hr, hb⟩
  have HF := Lib.hid (And.intro hd (And.intro hr hb))
  clear hd hr hb
  go_wp2_with fail
  go_ret
  exact ⟨v, ss, rfl, HF.out.1, HF.out.2.1, HF.out.2.2⟩
end Go.Proofs.YtfnlddloalineaaGreatDoor
