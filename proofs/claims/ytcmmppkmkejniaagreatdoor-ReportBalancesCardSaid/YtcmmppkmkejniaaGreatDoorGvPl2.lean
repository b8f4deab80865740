/-
  Plain: roles, links, entities, groups; the program's answer and the reference's are the same.
-/
import Derived.Test.YtcmmppkmkejniaaGreatDoorGvPl
namespace Go.Proofs.YtcmmppkmkejniaaGreatDoor
set_option linter.unusedVariables false
structure SRole where
  name : List UInt8
  code : Int
  kind : Int
  basis : Int
  mapped : Bool
instance : Inhabited SRole := ⟨⟨[], 0, 0, 0, false⟩⟩
structure SRoles where
  c0 : Int
  c1 : Int
  c2 : Int
  c3 : Int
  c4 : Int
  c5 : Int
  c6 : Int
  c7 : Int
  c8 : Int
  c9 : Int
  c10 : Int
  c11 : Int
  c12 : Int
  c13 : Int
  c14 : Int
/-- the roles in the order of the table -/
def rolesL (r : SRoles) : List SRole := [
  ⟨[105, 110, 118, 101, 115, 116, 109, 101, 110, 116], r.c0, 1, 3, true⟩,
  ⟨[103, 111, 111, 100, 119, 105, 108, 108], r.c1, 1, 3, false⟩,
  ⟨[97, 115, 115, 111, 99, 105, 97, 116, 101, 115], r.c2, 1, 3, false⟩,
  ⟨[105, 110, 118, 101, 110, 116, 111, 114, 121], r.c3, 1, 1, true⟩,
  ⟨[114, 101, 115, 101, 114, 118, 101], r.c4, 3, 3, false⟩,
  ⟨[109, 105, 110, 111, 114, 105, 116, 121], r.c5, 3, 3, false⟩,
  ⟨[114, 101, 116, 97, 105, 110, 101, 100], r.c6, 3, 3, true⟩,
  ⟨[97, 99, 113, 117, 105, 114, 101, 100], r.c7, 3, 3, false⟩,
  ⟨[111, 119, 110, 101, 114, 115], r.c8, 3, 3, false⟩,
  ⟨[100, 105, 115, 112, 111, 115, 97, 108], r.c9, 4, 2, false⟩,
  ⟨[97, 115, 115, 111, 99, 105, 97, 116, 101, 80, 114, 111, 102, 105, 116], r.c10, 4, 2, false⟩,
  ⟨[100, 105, 118, 105, 100, 101, 110, 100, 115], r.c11, 4, 2, true⟩,
  ⟨[109, 105, 110, 111, 114, 105, 116, 121, 80, 114, 111, 102, 105, 116], r.c12, 5, 2, false⟩,
  ⟨[100, 105, 102, 102, 101, 114, 101, 110, 99, 101], r.c13, 5, 2, false⟩,
  ⟨[109, 97, 114, 103, 105, 110], r.c14, 5, 2, false⟩]
theorem rolesL_len (r : SRoles) : (rolesL r).length = 15 := rfl
structure SLink where
  frm : Int
  to_ : Int
  since : Int
deriving DecidableEq
instance : Inhabited SLink := ⟨⟨0, 0, 0⟩⟩
def letB (c : UInt8) : Bool := (decide (97 ≤ c) && decide (c ≤ 122)) || (decide (65 ≤ c) && decide (c ≤ 90))
def nmAt (s : List UInt8) (i : Nat) : Bool := letB (s.getD i 0) || (decide (i ≠ 0) && ((s.getD i 0 == 45) || (decide (48 ≤ s.getD i 0) && decide (s.getD i 0 ≤ 57))))
/-- a text is the name of an entity -/
def nmOk (s : List UInt8) : Bool := (List.range s.length).all (nmAt s) && (decide (1 ≤ s.length) && decide (s.length ≤ 16))
def curAt (s : List UInt8) (i : Nat) : Bool := decide (65 ≤ s.getD i 0) && decide (s.getD i 0 ≤ 90)
/-- a text is a currency -/
def curOk (s : List UInt8) : Bool := (List.range s.length).all (curAt s) && (s.length == 3)
/-- the basis of an account belongs to its kind -/
def basedB (a : SAcc) : Bool := if a.kind = 1 ∨ a.kind = 2 then (a.basis == 1) || (a.basis == 3) else if a.kind = 3 then a.basis == 3 else a.basis == 2
def roleIs (l : List SAcc) (r : SRole) : Bool := match findA l r.code with
  | none => false
  | some a => (a.kind == r.kind) && (a.basis == r.basis)
def roleSeen (rs : List SRole) (k : Nat) (c : Int) : Bool := (rs.take k).any fun r => r.code == c
def roleAt (l : List SAcc) (rs : List SRole) (k : Nat) : Bool := roleIs l (rs.getD k default) && !roleSeen rs k (rs.getD k default).code
def rolesOk (l : List SAcc) (rs : List SRole) : Bool := (List.range rs.length).all (roleAt l rs)
/-- whether an account is closed for links: the program's map, the reference's loop -/
def closedP (rs : List SRole) (c : Int) : Bool := rs.foldl (fun v r => if r.code = c then !r.mapped else v) false
def closedR (rs : List SRole) (c : Int) : Bool := rs.any fun r => (c == r.code) && !r.mapped
def linkOk (ec gc : List SAcc) (x : SLink) : Bool := match findA ec x.frm, findA gc x.to_ with
  | some a, some b => (a.kind == b.kind) && dateB x.since
  | _, _ => false
def linkSeen (ls : List SLink) (k : Nat) (x : SLink) : Bool := (ls.take k).any fun y => (y.frm == x.frm) && (y.since == x.since)
def linkAt (ec gc : List SAcc) (ls : List SLink) (k : Nat) : Bool := linkOk ec gc (ls.getD k default) && !linkSeen ls k (ls.getD k default)
def linksOk (ec gc : List SAcc) (ls : List SLink) : Bool := (List.range ls.length).all (linkAt ec gc ls)
def mapP (ec gc : List SAcc) (ls : List SLink) : Bool := chartP gc true && (chartP ec false && (decide (ls.length ≤ 400) && linksOk ec gc ls))
def mapR (ec gc : List SAcc) (ls : List SLink) : Bool := chartR gc true && (chartR ec false && (decide (ls.length ≤ 400) && linksOk ec gc ls))
structure PEnt where
  name : List UInt8
  cur : List UInt8
  chart : List SAcc
  links : List SLink
  joint : Bool
instance : Inhabited PEnt := ⟨⟨[], [], [], [], false⟩⟩
structure PGrp where
  cur : List UInt8
  year : Int
  month : Int
  periods : Int
  chart : List SAcc
  roles : SRoles
  ents : List PEnt
def entP (g : PGrp) (e : PEnt) : Bool := nmOk e.name && (curOk e.cur && (mapP e.chart g.chart e.links && !e.links.any fun x => closedP (rolesL g.roles) x.to_))
def entR (g : PGrp) (e : PEnt) : Bool := nmOk e.name && (curOk e.cur && (mapR e.chart g.chart e.links && !e.links.any fun x => closedR (rolesL g.roles) x.to_))
def nameSeen (es : List PEnt) (k : Nat) (s : List UInt8) : Bool := (es.take k).any fun e => e.name == s
def entAtP (g : PGrp) (k : Nat) : Bool := !nameSeen g.ents k (g.ents.getD k default).name && entP g (g.ents.getD k default)
def entAtR (g : PGrp) (k : Nat) : Bool := !nameSeen g.ents k (g.ents.getD k default).name && entR g (g.ents.getD k default)
def accsP (g : PGrp) : Bool := chartP g.chart true && (!(g.chart.any fun a => !basedB a) && rolesOk g.chart (rolesL g.roles))
def booksR (g : PGrp) : Bool := curOk g.cur && (calOk g.year g.month g.periods && (chartR g.chart true && (g.chart.all basedB && rolesOk g.chart (rolesL g.roles))))
def entsIn (g : PGrp) : Bool := decide (1 ≤ g.ents.length) && (decide (g.ents.length ≤ 12) && !(g.ents.getD 0 default).joint)
/-- THE PROGRAM's ANSWER -/
def grpP (g : PGrp) : Bool := curOk g.cur && (calOk g.year g.month g.periods && (accsP g && (entsIn g && (List.range g.ents.length).all (entAtP g))))
/-- THE REFERENCE's -/
def grpR (g : PGrp) : Bool := booksR g && (entsIn g && (List.range g.ents.length).all (entAtR g))
theorem mapP_R (ec gc : List SAcc) (ls : List SLink) : mapP ec gc ls = mapR ec gc ls := by unfold mapP mapR; rw [chart_same, chart_same]
theorem closed_go (c : Int) : ∀ (rs : List SRole) (v : Bool), (rs.map (·.code)).Nodup → rs.foldl (fun v r => if r.code = c then !r.mapped else v) v = if rs.any (fun r => r.code == c) then closedR rs c else v := by
  intro rs
  induction rs with
  | nil => intro v _; rfl
  | cons r t ih =>
    intro v hn
    rw [List.map_cons, List.nodup_cons] at hn
    rw [List.foldl_cons, ih _ hn.2]
    by_cases h : r.code = c
    · have ht : t.any (fun r => r.code == c) = false := by
        rw [List.any_eq_false]
        intro x hx
        rw [beq_iff_eq]
        intro e
        exact hn.1 (by rw [h, ← e]; exact List.mem_map.2 ⟨x, hx, rfl⟩)
      have ht2 : closedR t c = false := by
        unfold closedR
        rw [List.any_eq_false]
        intro x hx
        rw [List.any_eq_false] at ht
        have := ht x hx
        intro h2
        rw [Bool.and_eq_true, beq_iff_eq] at h2
        exact this (by rw [beq_iff_eq]; exact h2.1.symm)
      rw [ht, if_pos h]
      unfold closedR at ht2 ⊢
      rw [List.any_cons, List.any_cons, ht2, ht]
      simp [h]
    · rw [if_neg h]
      unfold closedR
      rw [List.any_cons, List.any_cons]
      have h1 : (r.code == c) = false := by rw [beq_eq_false_iff_ne]; exact h
      have h2 : (c == r.code) = false := by rw [beq_eq_false_iff_ne]; exact fun e => h e.symm
      rw [h1, h2]; rfl
theorem closed_same {rs : List SRole} (h : (rs.map (·.code)).Nodup) (c : Int) : closedP rs c = closedR rs c := by
  unfold closedP
  rw [closed_go c rs false h]
  split
  · rfl
  · rename_i hx
    have hx : rs.any (fun r => r.code == c) = false := by simpa using hx
    unfold closedR
    symm
    rw [List.any_eq_false] at hx ⊢
    intro x hm h2
    rw [Bool.and_eq_true, beq_iff_eq] at h2
    exact hx x hm (by rw [beq_iff_eq]; exact h2.1.symm)
theorem rolesOk_nodup {l : List SAcc} {rs : List SRole} (h : rolesOk l rs = true) : (rs.map (·.code)).Nodup := by
  unfold rolesOk at h
  simp only [List.all_eq_true, List.mem_range] at h
  rw [List.nodup_iff_pairwise_ne, List.pairwise_map, List.pairwise_iff_getElem]
  intro i j hi hj hij e
  have := h j hj
  unfold roleAt at this
  rw [Bool.and_eq_true, Bool.not_eq_true'] at this
  have h2 := this.2
  unfold roleSeen at h2
  rw [List.any_eq_false] at h2
  have e1 : rs.getD j default = rs[j] := by simp [List.getD, hj]
  rw [e1] at h2
  refine h2 rs[i] ?_ (by rw [beq_iff_eq]; exact e)
  rw [List.mem_iff_getElem]
  exact ⟨i, by rw [List.length_take]; omega, by simp⟩
theorem ent_same {g : PGrp} (h : rolesOk g.chart (rolesL g.roles) = true) (e : PEnt) : entP g e = entR g e := by
  unfold entP entR
  rw [mapP_R]
  have : (fun x : SLink => closedP (rolesL g.roles) x.to_) = fun x => closedR (rolesL g.roles) x.to_ := by
    funext x
    exact closed_same (rolesOk_nodup h) _
  rw [this]
theorem not_any_based (l : List SAcc) : (!(l.any fun a => !basedB a)) = l.all basedB := by
  induction l with
  | nil => rfl
  | cons a r ih => rw [List.any_cons, List.all_cons, ← ih]; cases basedB a <;> simp
theorem accsP_R (g : PGrp) : (curOk g.cur && (calOk g.year g.month g.periods && accsP g)) = booksR g := by
  unfold accsP booksR
  rw [chart_same, not_any_based]
/-- BOTH ANSWER ALIKE -/
theorem grp_same (g : PGrp) : grpP g = grpR g := by
  unfold grpP grpR
  rw [← accsP_R]
  cases h1 : curOk g.cur
  · rfl
  cases h2 : calOk g.year g.month g.periods
  · rfl
  cases h3 : accsP g
  · rfl
  have h4 : rolesOk g.chart (rolesL g.roles) = true := by
    unfold accsP at h3
    rw [Bool.and_eq_true, Bool.and_eq_true] at h3
    exact h3.2.2
  have : entAtP g = entAtR g := by
    funext k
    unfold entAtP entAtR
    rw [ent_same h4]
  rw [this]; rfl
end Go.Proofs.YtcmmppkmkejniaaGreatDoor
