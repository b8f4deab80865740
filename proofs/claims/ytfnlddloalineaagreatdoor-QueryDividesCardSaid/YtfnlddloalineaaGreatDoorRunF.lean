/-
  The reference's list of rows beside the plain list of sums: what put makes of it (plain).
  What is known of the facts of a result whose whole numbers lie in an int, and of the fields of a query that stands (plain).
-/
import Derived.Test.YtfnlddloalineaaGreatDoorRunU
import Derived.Test.YtfnlddloalineaaGreatDoorArgRes2
import Derived.Test.YtfnlddloalineaaGreatDoorFew
namespace Go.Proofs.YtfnlddloalineaaGreatDoor
open Go.RowKit
set_option linter.unusedVariables false
set_option linter.unusedSimpArgs false
/-- the key ends in zeros behind its first nb -/
def TailZ (nb : Nat) (k : K5) : Prop := k.l.drop nb = List.replicate (5 - nb) (0 : Int)
/-- the rows say what the sums say -/
def RelS (nb : Nat) (rs : List RRow) (l : List (K5 × Int)) : Prop := rs.map (fun r => (r.ks, r.val)) = l.map (fun p => (p.1.l.take nb, p.2)) ∧ ∀ p, p ∈ l → TailZ nb p.1
theorem RelS.len {nb : Nat} {rs : List RRow} {l : List (K5 × Int)} (h : RelS nb rs l) : rs.length = l.length := by
  have := congrArg List.length h.1
  simpa using this
theorem RelS.at {nb j : Nat} {rs : List RRow} {l : List (K5 × Int)} {p : K5 × Int} (h : RelS nb rs l) (hp : l[j]? = some p) : j < rs.length ∧ (rs.getD j default).ks = p.1.l.take nb ∧ (rs.getD j default).val = p.2 := by
  have hj : j < rs.length := by rw [h.len]; exact (List.getElem?_eq_some_iff.1 hp).1
  have h1 : (rs.map (fun r => (r.ks, r.val)))[j]? = some (p.1.l.take nb, p.2) := by rw [h.1, List.getElem?_map, hp]; rfl
  rw [List.getElem?_map, List.getElem?_eq_getElem hj] at h1
  simp only [Option.map_some, Option.some.injEq, Prod.mk.injEq] at h1
  have e : rs.getD j default = rs[j] := by simp [List.getD, hj]
  rw [e]
  exact ⟨hj, h1.1, h1.2⟩
theorem l_len (k : K5) : k.l.length = 5 := rfl
theorem cmpL_take {nb : Nat} {a b : K5} (ha : TailZ nb a) (hb : TailZ nb b) : cmpL (a.l.take nb) (b.l.take nb) < 0 ↔ ltK a b := by
  have h := cmpL_app (xs := a.l.take nb) (ys := b.l.take nb) (zs := List.replicate (5 - nb) (0 : Int)) (by rw [List.length_take, List.length_take, l_len, l_len])
  rw [show a.l.take nb ++ List.replicate (5 - nb) (0 : Int) = a.l by rw [← ha]; exact List.take_append_drop _ _, show b.l.take nb ++ List.replicate (5 - nb) (0 : Int) = b.l by rw [← hb]; exact List.take_append_drop _ _] at h
  exact h.symm
theorem put_pos {nb i : Nat} {rs : List RRow} {l : List (K5 × Int)} {k : K5} (h : RelS nb rs l) (hk : TailZ nb k) (hi : i ≤ rs.length) (h1 : ∀ j, j < i → lessAt rs (k.l.take nb) j) (h2 : i < rs.length → ¬ lessAt rs (k.l.take nb) i) : posS l k = i := by
  refine posS_at (fun j hj => ?_) (fun p e hlt => ?_) (by rw [← h.len]; exact hi)
  · have hl : j < l.length := by rw [← h.len]; omega
    refine ⟨l[j], List.getElem?_eq_getElem hl, ?_⟩
    have ha := h.at (List.getElem?_eq_getElem hl)
    have h3 := h1 j hj
    unfold lessAt at h3
    rw [ha.2.1] at h3
    exact (cmpL_take (h.2 _ (List.getElem_mem hl)) hk).1 h3
  · have ha := h.at e
    refine h2 ha.1 ?_
    unfold lessAt
    rw [ha.2.1]
    exact (cmpL_take (h.2 _ (List.mem_of_getElem? e)) hk).2 hlt
theorem RelS.tail_put {nb : Nat} {rs : List RRow} {l : List (K5 × Int)} {k : K5} {x : Int} (h : RelS nb rs l) (hk : TailZ nb k) : ∀ p, p ∈ putS l k x → TailZ nb p.1 := by
  intro p hp
  rcases (mem_putS l k p.1 x).1 (List.mem_map.2 ⟨p, hp, rfl⟩) with e | e
  · rw [e]; exact hk
  · obtain ⟨q, hq, e⟩ := List.mem_map.1 e
    rw [← e]; exact h.2 q hq
theorem put_old_rel {nb i : Nat} {rs : List RRow} {l : List (K5 × Int)} {k : K5} {x : Int} (h : RelS nb rs l) (hk : TailZ nb k) (hpos : posS l k = i) (hi : i < rs.length) (h3 : ¬ cmpL (k.l.take nb) (rs.getD i default).ks < 0) :
    RelS nb (rs.set i { rs.getD i default with val := (rs.getD i default).val + x }) (putS l k x) := by
  refine ⟨?_, h.tail_put hk⟩
  have hl : i < l.length := by rw [← h.len]; exact hi
  have ha := h.at (List.getElem?_eq_getElem hl)
  have hno : ¬ ltK k (l[i]).1 := fun hlt => h3 (by rw [ha.2.1]; exact (cmpL_take hk (h.2 _ (List.getElem_mem hl))).2 hlt)
  rw [putS_old (p := l[i]) (by rw [hpos]; exact List.getElem?_eq_getElem hl) hno, hpos, List.map_set, List.map_set, h.1]
  show List.set _ i ((rs.getD i default).ks, (rs.getD i default).val + x) = _
  rw [ha.2.1, ha.2.2]
theorem put_new_rel {nb i n c : Nat} {A : Option Addr} {rs : List RRow} {l : List (K5 × Int)} {k : K5} {x : Int} (h : RelS nb rs l) (hk : TailZ nb k) (hpos : posS l k = i) (h3 : i < rs.length → cmpL (k.l.take nb) (rs.getD i default).ks < 0) :
    RelS nb (rs.take i ++ ⟨A, n, c, k.l.take nb, x⟩ :: rs.drop i) (putS l k x) := by
  refine ⟨?_, h.tail_put hk⟩
  have hlt : ∀ p, l[posS l k]? = some p → ltK k p.1 := fun p e => by
    rw [hpos] at e
    have ha := h.at e
    have h4 := h3 ha.1
    rw [ha.2.1] at h4
    exact (cmpL_take hk (h.2 _ (List.mem_of_getElem? e))).1 h4
  rw [putS_new hlt, hpos, List.map_append, List.map_append, List.map_cons, List.map_cons, List.map_take, List.map_take, List.map_drop, List.map_drop, h.1]
theorem rrows_ks (a b : List RRow) (A : Option Addr) (n c : Nat) (ks ks' : List Int) (x : Int) : rrowsC (a ++ ⟨A, n, c, ks, x⟩ :: b) = rrowsC (a ++ ⟨A, n, c, ks', x⟩ :: b) := by
  unfold rrowsC
  rw [List.flatMap_append, List.flatMap_append, List.flatMap_cons, List.flatMap_cons]
  rfl
theorem keyF_tail {byl : List Int} (f : SFact) (h : byl.length ≤ 5) : TailZ byl.length (keyF byl f) ∧ (keyF byl f).l.take byl.length = keyL byl f := by
  match byl, h with
  | [], _ => exact ⟨rfl, rfl⟩
  | [_], _ => exact ⟨rfl, rfl⟩
  | [_, _], _ => exact ⟨rfl, rfl⟩
  | [_, _, _], _ => exact ⟨rfl, rfl⟩
  | [_, _, _, _], _ => exact ⟨rfl, rfl⟩
  | [_, _, _, _, _], _ => exact ⟨rfl, rfl⟩
  | _ :: _ :: _ :: _ :: _ :: _ :: _, h => simp only [List.length_cons] at h; omega
theorem start_rel {byl : List Int} : RelS byl.length (if byl = [] then [⟨none, 0, 0, [], 0⟩] else []) (startR byl) := by
  unfold startR
  split
  · rename_i e
    subst e
    refine ⟨rfl, fun p hp => ?_⟩
    rw [List.mem_singleton] at hp
    rw [hp]; rfl
  · exact ⟨rfl, fun p hp => by cases hp⟩
end Go.Proofs.YtfnlddloalineaaGreatDoor
namespace Go.Proofs.YtfnlddloalineaaGreatDoor
open Go.RowKit
set_option linter.unusedVariables false
set_option linter.unusedSimpArgs false
def okFct (f : SFact) : Prop := okI f.acc ∧ okI f.ent ∧ okI f.par ∧ okI f.kind ∧ okI f.dat ∧ smallA f.amt
theorem facts_ok {its : List SItem} {pos : List SPost} {nb nw : Nat} (hi : ∀ x ∈ its, okItem x) (hp : ∀ x ∈ pos, okPost x) (hf : FewR its pos nb nw) : ∀ f ∈ factsL its pos, okFct f := by
  intro f hm
  unfold factsL at hm
  rcases List.mem_append.1 hm with h | h
  · obtain ⟨x, hx, rfl⟩ := List.mem_map.1 h
    obtain ⟨a, b, c, d, e, g, i⟩ := hi x hx
    obtain ⟨k, hk⟩ := List.getElem?_of_mem hx
    have hs := hf.si k (List.getElem?_eq_some_iff.1 hk).1
    have e1 : its.getD k default = x := by simp [List.getD, hk]
    rw [e1] at hs
    exact ⟨d, c, e, rfl, g, hs⟩
  · obtain ⟨p, hp', h⟩ := List.mem_flatMap.1 h
    obtain ⟨x, hx, rfl⟩ := List.mem_map.1 h
    obtain ⟨a, b, c, d, e⟩ := hp p hp'
    obtain ⟨g, i⟩ := e x hx
    obtain ⟨k, hk⟩ := List.getElem?_of_mem hx
    have hs := hf.sp p hp' k (List.getElem?_eq_some_iff.1 hk).1
    have e1 : p.parts.getD k default = x := by simp [List.getD, hk]
    rw [e1] at hs
    exact ⟨g, b, c, a, rfl, hs⟩
theorem fld_ok {f : SFact} (h : okFct f) (k : Int) : okI (fldF f k) := by
  obtain ⟨a, b, c, d, e, _⟩ := h
  unfold fldF
  split
  · exact a
  · split
    · exact b
    · split
      · exact c
      · split
        · exact d
        · exact e
theorem kf_ok {f : SFact} (h : okFct f) (byl : List Int) (i : Nat) : okI (kfN byl f i) := by
  unfold kfN
  split
  · exact fld_ok h _
  · exact rfl
theorem key_ok {f : SFact} (h : okFct f) (byl : List Int) : okK (keyF byl f) := ⟨kf_ok h _ _, kf_ok h _ _, kf_ok h _ _, kf_ok h _ _, kf_ok h _ _⟩
theorem pigeon : ∀ (n : Nat) (l : List Int), l.Nodup → (∀ x ∈ l, 0 ≤ x ∧ x < n) → l.length ≤ n := by
  intro n
  induction n with
  | zero =>
    intro l _ h
    cases l with
    | nil => exact Nat.le_refl _
    | cons x r => have := h x (by simp); omega
  | succ n ih =>
    intro l hd h
    by_cases hm : (n : Int) ∈ l
    · have h1 := ih (l.erase (n : Int)) (hd.erase _) (fun x hx => by
        have h2 := (hd.mem_erase_iff).1 hx
        have h3 := h x h2.2
        have := h2.1
        omega)
      have h2 := List.length_erase_of_mem hm
      omega
    · have h1 := ih l hd (fun x hx => by
        have h3 := h x hx
        have : x ≠ (n : Int) := fun e => hm (e ▸ hx)
        omega)
      omega
theorem by_nodup {l : List Int} (h : ∀ k, k < l.length → (l.take k).contains (l.getD k 0) = false) : l.Nodup := by
  refine List.pairwise_iff_getElem.2 fun i j hi hj hij e => ?_
  have h1 := h j hj
  have h2 : l.getD j 0 ∈ l.take j := by
    have e2 : l.getD j 0 = l[i] := by rw [e]; simp [List.getD, hj]
    rw [e2]
    exact List.mem_iff_getElem.2 ⟨i, by rw [List.length_take]; omega, by rw [List.getElem_take]⟩
  have h3 : (l.take j).contains (l.getD j 0) = true := List.contains_iff_mem.2 h2
  rw [h1] at h3
  cases h3
theorem by_len {q : SQry} (h : OkQ q) : q.by_.length ≤ 5 := by
  refine pigeon 5 _ (by_nodup h.bd) fun x hx => ?_
  obtain ⟨k, hk⟩ := List.getElem?_of_mem hx
  have h1 := h.br k (List.getElem?_eq_some_iff.1 hk).1
  have e1 : q.by_.getD k 0 = x := by simp [List.getD, hk]
  rw [e1] at h1
  omega
end Go.Proofs.YtfnlddloalineaaGreatDoor
