/-
  Accounts, links, roles, entities and groups in memory.
-/
import Derived.Test.YtcmmppkmkejniaaGreatDoorGvPl2
import Derived.Test.YtcmmppkmkejniaaGreatDoorBlSt
namespace Go.Proofs.YtcmmppkmkejniaaGreatDoor
open Go.RowKit
set_option linter.unusedVariables false
/-- a number that an int holds -/
def okI (x : Int) : Prop := (Lit.int .i64 x).wf = true
theorem gflat_at {T : Type} [Inhabited T] (row : T → List Value) {S : Nat} (hrow : ∀ t, (row t).length = S) : ∀ {ts : List T} {k j : Nat}, k < ts.length → j < S → (ts.flatMap row)[k * S + j]? = (row (ts.getD k default))[j]? := by
  intro ts
  induction ts with
  | nil => intro k j h; simp at h
  | cons t r ih =>
    intro k j h hj
    rw [List.flatMap_cons]
    cases k with
    | zero =>
      rw [List.getElem?_append_left (by rw [hrow]; omega)]
      simp
    | succ k =>
      have e : (k + 1) * S + j - (row t).length = k * S + j := by rw [hrow, Nat.add_mul]; omega
      rw [List.getElem?_append_right (by rw [hrow, Nat.add_mul]; omega), e]
      have := ih (k := k) (j := j) (by simpa using h) hj
      simpa using this
theorem gflat_len {T : Type} (row : T → List Value) {S : Nat} (hrow : ∀ t, (row t).length = S) (ts : List T) : (ts.flatMap row).length = ts.length * S := by
  induction ts with
  | nil => simp
  | cons t r ih => rw [List.flatMap_cons, List.length_append, ih, hrow, List.length_cons, Nat.add_mul]; omega
theorem gadd_pos (a : Addr) (n : Nat) (h : n ≠ 0) : a.add n = ⟨a.block, a.off + n, none⟩ := by unfold Addr.add; rw [if_neg h]
theorem Reads.lowg {w w' : World} {B size n : Nat} {A : Option Addr} {xs : List Value} (h : Reads w B size A n xs) (hB : B ≤ w.heap.size) {C : Nat} (hC : w.heap.size ≤ C) (hb : Below C w w') : Reads w' B size A n xs :=
  h.keep fun _ hp => hb.cell (by omega)
def accC (x : SAcc) : List Value := [.int .i64 x.code, .int .i64 x.kind, .int .i64 x.basis, .int .i64 x.parent]
def accsC (l : List SAcc) : List Value := l.flatMap accC
theorem accC_len (x : SAcc) : (accC x).length = 4 := rfl
theorem accs_len {w : World} {B n : Nat} {A : Option Addr} {l : List SAcc} (h : Reads w B 4 A n (accsC l)) : l.length = n := by
  have := h.1
  unfold accsC at this
  rw [gflat_len accC accC_len] at this
  omega
theorem Reads.acc_at {w : World} {B n k : Nat} {A : Option Addr} {l : List SAcc} (h : Reads w B 4 A n (accsC l)) (hk : k < n) :
    ∃ ad, A = some ad ∧ ad.block < B ∧ w.cell? (ad.add (k * 4)) = some (.int .i64 (l.getD k default).code) ∧ w.cell? ⟨(ad.add (k * 4)).block, (ad.add (k * 4)).off + 1, none⟩ = some (.int .i64 (l.getD k default).kind) ∧ w.cell? ⟨(ad.add (k * 4)).block, (ad.add (k * 4)).off + 2, none⟩ = some (.int .i64 (l.getD k default).basis) ∧ w.cell? ⟨(ad.add (k * 4)).block, (ad.add (k * 4)).off + 3, none⟩ = some (.int .i64 (l.getD k default).parent) := by
  have hl := accs_len h
  obtain ⟨ad, rfl, hb, hc⟩ := h.2 (by omega)
  have hx : ∀ j, j < 4 → ∀ u, (accC (l.getD k default))[j]? = some u → w.cell? (ad.add (k * 4 + j)) = some u := by
    intro j hj u hu
    refine hc _ _ ?_
    unfold accsC
    rw [gflat_at accC accC_len (by omega) hj, hu]
  have g0 := hx 0 (by omega) _ rfl
  have g1 := hx 1 (by omega) _ rfl
  have g2 := hx 2 (by omega) _ rfl
  have g3 := hx 3 (by omega) _ rfl
  rw [← add_of_add, gadd_pos _ 1 (by omega)] at g1
  rw [← add_of_add, gadd_pos _ 2 (by omega)] at g2
  rw [← add_of_add, gadd_pos _ 3 (by omega)] at g3
  exact ⟨ad, rfl, hb, g0, g1, g2, g3⟩
theorem acc_blk {w : World} {g : Nat} {T : TypeId} {a0 a1 a2 a3 : Value} (h : Blk w g T #[a0, a1, a2, a3]) :
    w.cell? ⟨g, 0, none⟩ = some a0 ∧ w.cell? ⟨g, 1, none⟩ = some a1 ∧ w.cell? ⟨g, 2, none⟩ = some a2 ∧ w.cell? ⟨g, 3, none⟩ = some a3 :=
  ⟨h.cell 0, h.cell 1, h.cell 2, h.cell 3⟩
def accV (x : SAcc) : Value := .agg #[.int .i64 x.code, .int .i64 x.kind, .int .i64 x.basis, .int .i64 x.parent]
def linkC (x : SLink) : List Value := [.int .i64 x.frm, .int .i64 x.to_, .int .i64 x.since]
def linksC (l : List SLink) : List Value := l.flatMap linkC
theorem linkC_len (x : SLink) : (linkC x).length = 3 := rfl
theorem links_len {w : World} {B n : Nat} {A : Option Addr} {l : List SLink} (h : Reads w B 3 A n (linksC l)) : l.length = n := by
  have := h.1
  unfold linksC at this
  rw [gflat_len linkC linkC_len] at this
  omega
theorem Reads.link_at {w : World} {B n k : Nat} {A : Option Addr} {l : List SLink} (h : Reads w B 3 A n (linksC l)) (hk : k < n) :
    ∃ ad, A = some ad ∧ ad.block < B ∧ w.cell? (ad.add (k * 3)) = some (.int .i64 (l.getD k default).frm) ∧ w.cell? ⟨(ad.add (k * 3)).block, (ad.add (k * 3)).off + 1, none⟩ = some (.int .i64 (l.getD k default).to_) ∧ w.cell? ⟨(ad.add (k * 3)).block, (ad.add (k * 3)).off + 2, none⟩ = some (.int .i64 (l.getD k default).since) := by
  have hl := links_len h
  obtain ⟨ad, rfl, hb, hc⟩ := h.2 (by omega)
  have hx : ∀ j, j < 3 → ∀ u, (linkC (l.getD k default))[j]? = some u → w.cell? (ad.add (k * 3 + j)) = some u := by
    intro j hj u hu
    refine hc _ _ ?_
    unfold linksC
    rw [gflat_at linkC linkC_len (by omega) hj, hu]
  have g0 := hx 0 (by omega) _ rfl
  have g1 := hx 1 (by omega) _ rfl
  have g2 := hx 2 (by omega) _ rfl
  rw [← add_of_add, gadd_pos _ 1 (by omega)] at g1
  rw [← add_of_add, gadd_pos _ 2 (by omega)] at g2
  exact ⟨ad, rfl, hb, g0, g1, g2⟩
theorem link_blk {w : World} {g : Nat} {T : TypeId} {a0 a1 a2 : Value} (h : Blk w g T #[a0, a1, a2]) :
    w.cell? ⟨g, 0, none⟩ = some a0 ∧ w.cell? ⟨g, 1, none⟩ = some a1 ∧ w.cell? ⟨g, 2, none⟩ = some a2 :=
  ⟨h.cell 0, h.cell 1, h.cell 2⟩
def linkV (x : SLink) : Value := .agg #[.int .i64 x.frm, .int .i64 x.to_, .int .i64 x.since]
def roleC (x : SRole) : List Value := [.string ⟨x.name.toArray⟩, .int .i64 x.code, .int .i64 x.kind, .int .i64 x.basis, .bool x.mapped]
def rolesC (l : List SRole) : List Value := l.flatMap roleC
theorem roleC_len (x : SRole) : (roleC x).length = 5 := rfl
theorem roles_len {w : World} {B n : Nat} {A : Option Addr} {l : List SRole} (h : Reads w B 5 A n (rolesC l)) : l.length = n := by
  have := h.1
  unfold rolesC at this
  rw [gflat_len roleC roleC_len] at this
  omega
theorem Reads.role_at {w : World} {B n k : Nat} {A : Option Addr} {l : List SRole} (h : Reads w B 5 A n (rolesC l)) (hk : k < n) :
    ∃ ad, A = some ad ∧ ad.block < B ∧ w.cell? (ad.add (k * 5)) = some (.string ⟨(l.getD k default).name.toArray⟩) ∧ w.cell? ⟨(ad.add (k * 5)).block, (ad.add (k * 5)).off + 1, none⟩ = some (.int .i64 (l.getD k default).code) ∧ w.cell? ⟨(ad.add (k * 5)).block, (ad.add (k * 5)).off + 2, none⟩ = some (.int .i64 (l.getD k default).kind) ∧ w.cell? ⟨(ad.add (k * 5)).block, (ad.add (k * 5)).off + 3, none⟩ = some (.int .i64 (l.getD k default).basis) ∧ w.cell? ⟨(ad.add (k * 5)).block, (ad.add (k * 5)).off + 4, none⟩ = some (.bool (l.getD k default).mapped) := by
  have hl := roles_len h
  obtain ⟨ad, rfl, hb, hc⟩ := h.2 (by omega)
  have hx : ∀ j, j < 5 → ∀ u, (roleC (l.getD k default))[j]? = some u → w.cell? (ad.add (k * 5 + j)) = some u := by
    intro j hj u hu
    refine hc _ _ ?_
    unfold rolesC
    rw [gflat_at roleC roleC_len (by omega) hj, hu]
  have g0 := hx 0 (by omega) _ rfl
  have g1 := hx 1 (by omega) _ rfl
  have g2 := hx 2 (by omega) _ rfl
  have g3 := hx 3 (by omega) _ rfl
  have g4 := hx 4 (by omega) _ rfl
  rw [← add_of_add, gadd_pos _ 1 (by omega)] at g1
  rw [← add_of_add, gadd_pos _ 2 (by omega)] at g2
  rw [← add_of_add, gadd_pos _ 3 (by omega)] at g3
  rw [← add_of_add, gadd_pos _ 4 (by omega)] at g4
  exact ⟨ad, rfl, hb, g0, g1, g2, g3, g4⟩
theorem role_blk {w : World} {g : Nat} {T : TypeId} {a0 a1 a2 a3 a4 : Value} (h : Blk w g T #[a0, a1, a2, a3, a4]) :
    w.cell? ⟨g, 0, none⟩ = some a0 ∧ w.cell? ⟨g, 1, none⟩ = some a1 ∧ w.cell? ⟨g, 2, none⟩ = some a2 ∧ w.cell? ⟨g, 3, none⟩ = some a3 ∧ w.cell? ⟨g, 4, none⟩ = some a4 :=
  ⟨h.cell 0, h.cell 1, h.cell 2, h.cell 3, h.cell 4⟩
def roleV (x : SRole) : Value := .agg #[.string ⟨x.name.toArray⟩, .int .i64 x.code, .int .i64 x.kind, .int .i64 x.basis, .bool x.mapped]
structure SEnt where
  name : List UInt8
  cur : List UInt8
  Ac : Option Addr
  nc : Nat
  cc : Nat
  chart : List SAcc
  Al : Option Addr
  nl : Nat
  cl : Nat
  links : List SLink
  joint : Bool
instance : Inhabited SEnt := ⟨⟨[], [], none, 0, 0, [], none, 0, 0, [], false⟩⟩
def SEnt.p (x : SEnt) : PEnt := ⟨x.name, x.cur, x.chart, x.links, x.joint⟩
theorem entp_default : SEnt.p default = default := rfl
def entC (x : SEnt) : List Value := [.string ⟨x.name.toArray⟩, .string ⟨x.cur.toArray⟩, .slice x.Ac x.nc x.cc, .slice x.Al x.nl x.cl, .bool x.joint]
def entsC (l : List SEnt) : List Value := l.flatMap entC
theorem entC_len (x : SEnt) : (entC x).length = 5 := rfl
theorem ents_len {w : World} {B n : Nat} {A : Option Addr} {l : List SEnt} (h : Reads w B 5 A n (entsC l)) : l.length = n := by
  have := h.1
  unfold entsC at this
  rw [gflat_len entC entC_len] at this
  omega
theorem Reads.ent_at {w : World} {B n k : Nat} {A : Option Addr} {l : List SEnt} (h : Reads w B 5 A n (entsC l)) (hk : k < n) :
    ∃ ad, A = some ad ∧ ad.block < B ∧ w.cell? (ad.add (k * 5)) = some (.string ⟨(l.getD k default).name.toArray⟩) ∧ w.cell? ⟨(ad.add (k * 5)).block, (ad.add (k * 5)).off + 1, none⟩ = some (.string ⟨(l.getD k default).cur.toArray⟩) ∧ w.cell? ⟨(ad.add (k * 5)).block, (ad.add (k * 5)).off + 2, none⟩ = some (.slice (l.getD k default).Ac (l.getD k default).nc (l.getD k default).cc) ∧ w.cell? ⟨(ad.add (k * 5)).block, (ad.add (k * 5)).off + 3, none⟩ = some (.slice (l.getD k default).Al (l.getD k default).nl (l.getD k default).cl) ∧ w.cell? ⟨(ad.add (k * 5)).block, (ad.add (k * 5)).off + 4, none⟩ = some (.bool (l.getD k default).joint) := by
  have hl := ents_len h
  obtain ⟨ad, rfl, hb, hc⟩ := h.2 (by omega)
  have hx : ∀ j, j < 5 → ∀ u, (entC (l.getD k default))[j]? = some u → w.cell? (ad.add (k * 5 + j)) = some u := by
    intro j hj u hu
    refine hc _ _ ?_
    unfold entsC
    rw [gflat_at entC entC_len (by omega) hj, hu]
  have g0 := hx 0 (by omega) _ rfl
  have g1 := hx 1 (by omega) _ rfl
  have g2 := hx 2 (by omega) _ rfl
  have g3 := hx 3 (by omega) _ rfl
  have g4 := hx 4 (by omega) _ rfl
  rw [← add_of_add, gadd_pos _ 1 (by omega)] at g1
  rw [← add_of_add, gadd_pos _ 2 (by omega)] at g2
  rw [← add_of_add, gadd_pos _ 3 (by omega)] at g3
  rw [← add_of_add, gadd_pos _ 4 (by omega)] at g4
  exact ⟨ad, rfl, hb, g0, g1, g2, g3, g4⟩
theorem ent_blk {w : World} {g : Nat} {T : TypeId} {a0 a1 a2 a3 a4 : Value} (h : Blk w g T #[a0, a1, a2, a3, a4]) :
    w.cell? ⟨g, 0, none⟩ = some a0 ∧ w.cell? ⟨g, 1, none⟩ = some a1 ∧ w.cell? ⟨g, 2, none⟩ = some a2 ∧ w.cell? ⟨g, 3, none⟩ = some a3 ∧ w.cell? ⟨g, 4, none⟩ = some a4 :=
  ⟨h.cell 0, h.cell 1, h.cell 2, h.cell 3, h.cell 4⟩
def entV (x : SEnt) : Value := .agg #[.string ⟨x.name.toArray⟩, .string ⟨x.cur.toArray⟩, .slice x.Ac x.nc x.cc, .slice x.Al x.nl x.cl, .bool x.joint]
def AccOk (x : SAcc) : Prop := okI x.code ∧ okI x.kind ∧ okI x.basis ∧ okI x.parent
def LinkOk (x : SLink) : Prop := okI x.frm ∧ okI x.to_ ∧ okI x.since
/-- a chart lies in memory -/
structure ChartIn (W : World) (B : Nat) (A : Option Addr) (n c : Nat) (l : List SAcc) : Prop where
  rd : Reads W B 4 A n (accsC l)
  le : n ≤ 9223372036854775807
  cap : n ≤ c
  ok : ∀ x ∈ l, AccOk x
/-- links lie in memory -/
structure LinksIn (W : World) (B : Nat) (A : Option Addr) (n c : Nat) (l : List SLink) : Prop where
  rd : Reads W B 3 A n (linksC l)
  le : n ≤ 9223372036854775807
  cap : n ≤ c
  ok : ∀ x ∈ l, LinkOk x
/-- what an entity holds lies in memory -/
structure EntIn (W : World) (B : Nat) (x : SEnt) : Prop where
  ch : ChartIn W B x.Ac x.nc x.cc x.chart
  li : LinksIn W B x.Al x.nl x.cl x.links
  nm : x.name.length ≤ 9223372036854775807
  cu : x.cur.length ≤ 9223372036854775807
structure RolesOk (r : SRoles) : Prop where
  ok : ∀ x ∈ rolesL r, okI x.code
structure SGrp where
  cur : List UInt8
  year : Int
  month : Int
  periods : Int
  Ac : Option Addr
  nc : Nat
  cc : Nat
  chart : List SAcc
  roles : SRoles
  Ae : Option Addr
  ne : Nat
  ce : Nat
  ents : List SEnt
def SGrp.p (g : SGrp) : PGrp := ⟨g.cur, g.year, g.month, g.periods, g.chart, g.roles, g.ents.map SEnt.p⟩
def rolesV (r : SRoles) : Value := .agg #[.int .i64 r.c0, .int .i64 r.c1, .int .i64 r.c2, .int .i64 r.c3, .int .i64 r.c4, .int .i64 r.c5, .int .i64 r.c6, .int .i64 r.c7, .int .i64 r.c8, .int .i64 r.c9, .int .i64 r.c10, .int .i64 r.c11, .int .i64 r.c12, .int .i64 r.c13, .int .i64 r.c14]
def grpC (g : SGrp) : Array Value := #[.string ⟨g.cur.toArray⟩, .int .i64 g.year, .int .i64 g.month, .int .i64 g.periods, .slice g.Ac g.nc g.cc, .int .i64 g.roles.c0, .int .i64 g.roles.c1, .int .i64 g.roles.c2, .int .i64 g.roles.c3, .int .i64 g.roles.c4, .int .i64 g.roles.c5, .int .i64 g.roles.c6, .int .i64 g.roles.c7, .int .i64 g.roles.c8, .int .i64 g.roles.c9, .int .i64 g.roles.c10, .int .i64 g.roles.c11, .int .i64 g.roles.c12, .int .i64 g.roles.c13, .int .i64 g.roles.c14, .slice g.Ae g.ne g.ce]
def grpV (g : SGrp) : Value := .agg #[.string ⟨g.cur.toArray⟩, .int .i64 g.year, .int .i64 g.month, .int .i64 g.periods, .slice g.Ac g.nc g.cc, .int .i64 g.roles.c0, .int .i64 g.roles.c1, .int .i64 g.roles.c2, .int .i64 g.roles.c3, .int .i64 g.roles.c4, .int .i64 g.roles.c5, .int .i64 g.roles.c6, .int .i64 g.roles.c7, .int .i64 g.roles.c8, .int .i64 g.roles.c9, .int .i64 g.roles.c10, .int .i64 g.roles.c11, .int .i64 g.roles.c12, .int .i64 g.roles.c13, .int .i64 g.roles.c14, .slice g.Ae g.ne g.ce]
/-- a group lies in memory -/
structure GrpIn (W : World) (B : Nat) (g : SGrp) : Prop where
  ch : ChartIn W B g.Ac g.nc g.cc g.chart
  en : Reads W B 5 g.Ae g.ne (entsC g.ents)
  ne : g.ne ≤ 9223372036854775807
  ce : g.ne ≤ g.ce
  ro : ∀ x ∈ rolesL g.roles, okI x.code
  ok : ∀ x ∈ g.ents, EntIn W B x
  cu : g.cur.length ≤ 9223372036854775807
section
variable {w w' : World} {B : Nat}
theorem ChartIn.keep {A : Option Addr} {n c : Nat} {l : List SAcc} (h : ChartIn w B A n c l) (hk : ∀ p : Addr, p.block < B → w'.cell? p = w.cell? p) : ChartIn w' B A n c l := ⟨h.rd.keep hk, h.le, h.cap, h.ok⟩
theorem LinksIn.keep {A : Option Addr} {n c : Nat} {l : List SLink} (h : LinksIn w B A n c l) (hk : ∀ p : Addr, p.block < B → w'.cell? p = w.cell? p) : LinksIn w' B A n c l := ⟨h.rd.keep hk, h.le, h.cap, h.ok⟩
theorem EntIn.keep {x : SEnt} (h : EntIn w B x) (hk : ∀ p : Addr, p.block < B → w'.cell? p = w.cell? p) : EntIn w' B x := ⟨h.ch.keep hk, h.li.keep hk, h.nm, h.cu⟩
theorem GrpIn.keep {g : SGrp} (h : GrpIn w B g) (hk : ∀ p : Addr, p.block < B → w'.cell? p = w.cell? p) : GrpIn w' B g := ⟨h.ch.keep hk, h.en.keep hk, h.ne, h.ce, h.ro, fun x hx => (h.ok x hx).keep hk, h.cu⟩
theorem ChartIn.low {A : Option Addr} {n c : Nat} {l : List SAcc} (h : ChartIn w B A n c l) (hB : B ≤ w.heap.size) {C : Nat} (hC : w.heap.size ≤ C) (hb : Below C w w') : ChartIn w' B A n c l := h.keep fun _ hp => hb.cell (by omega)
theorem LinksIn.low {A : Option Addr} {n c : Nat} {l : List SLink} (h : LinksIn w B A n c l) (hB : B ≤ w.heap.size) {C : Nat} (hC : w.heap.size ≤ C) (hb : Below C w w') : LinksIn w' B A n c l := h.keep fun _ hp => hb.cell (by omega)
theorem EntIn.low {x : SEnt} (h : EntIn w B x) (hB : B ≤ w.heap.size) {C : Nat} (hC : w.heap.size ≤ C) (hb : Below C w w') : EntIn w' B x := h.keep fun _ hp => hb.cell (by omega)
theorem GrpIn.low {g : SGrp} (h : GrpIn w B g) (hB : B ≤ w.heap.size) {C : Nat} (hC : w.heap.size ≤ C) (hb : Below C w w') : GrpIn w' B g := h.keep fun _ hp => hb.cell (by omega)
theorem ChartIn.len {A : Option Addr} {n c : Nat} {l : List SAcc} (h : ChartIn w B A n c l) : l.length = n := accs_len h.rd
theorem LinksIn.len {A : Option Addr} {n c : Nat} {l : List SLink} (h : LinksIn w B A n c l) : l.length = n := links_len h.rd
end
theorem grp_blk {w : World} {g : Nat} {T : TypeId} {a0 a1 a2 a3 a4 a5 a6 a7 a8 a9 a10 a11 a12 a13 a14 a15 a16 a17 a18 a19 a20 : Value} (h : Blk w g T #[a0, a1, a2, a3, a4, a5, a6, a7, a8, a9, a10, a11, a12, a13, a14, a15, a16, a17, a18, a19, a20]) :
    w.cell? ⟨g, 0, none⟩ = some a0 ∧ w.cell? ⟨g, 1, none⟩ = some a1 ∧ w.cell? ⟨g, 2, none⟩ = some a2 ∧ w.cell? ⟨g, 3, none⟩ = some a3 ∧ w.cell? ⟨g, 4, none⟩ = some a4 ∧ w.cell? ⟨g, 5, none⟩ = some a5 ∧ w.cell? ⟨g, 6, none⟩ = some a6 ∧ w.cell? ⟨g, 7, none⟩ = some a7 ∧ w.cell? ⟨g, 8, none⟩ = some a8 ∧ w.cell? ⟨g, 9, none⟩ = some a9 ∧ w.cell? ⟨g, 10, none⟩ = some a10 ∧ w.cell? ⟨g, 11, none⟩ = some a11 ∧ w.cell? ⟨g, 12, none⟩ = some a12 ∧ w.cell? ⟨g, 13, none⟩ = some a13 ∧ w.cell? ⟨g, 14, none⟩ = some a14 ∧ w.cell? ⟨g, 15, none⟩ = some a15 ∧ w.cell? ⟨g, 16, none⟩ = some a16 ∧ w.cell? ⟨g, 17, none⟩ = some a17 ∧ w.cell? ⟨g, 18, none⟩ = some a18 ∧ w.cell? ⟨g, 19, none⟩ = some a19 ∧ w.cell? ⟨g, 20, none⟩ = some a20 :=
  ⟨h.cell 0, h.cell 1, h.cell 2, h.cell 3, h.cell 4, h.cell 5, h.cell 6, h.cell 7, h.cell 8, h.cell 9, h.cell 10, h.cell 11, h.cell 12, h.cell 13, h.cell 14, h.cell 15, h.cell 16, h.cell 17, h.cell 18, h.cell 19, h.cell 20⟩
end Go.Proofs.YtcmmppkmkejniaaGreatDoor
