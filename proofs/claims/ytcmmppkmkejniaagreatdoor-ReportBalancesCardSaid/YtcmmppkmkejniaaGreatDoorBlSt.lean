/-
  Strings in a walk: the walk's spellings, strconv.Itoa, one byte as a string.
  Rows of statements: plain laws, no program in sight.
  Memory: a slice that reads as a list, a block that is known whole, append onto a row of the call's own (the guide's lemmas to copy, extra-words), and small forms of them for slices of integers.
  Rows of the call's own: kept over what lies below; a literal's block reads as its cells.
  The small functions of the statements: named, title; the reference's Title.
  Arguments that are slices of structs of one-cell fields (the guide's lemma to copy, extra-structs, and what the walks ask of it).
  Rows in memory; statement.proper.
  append behind a guard ('a && f(append(..))').
  Valid, the reference's Valid.
-/
import Derived.Test.YtcmmppkmkejniaaGreatDoorKit
import Derived.Test.YtcmmppkmkejniaaGreatDoorDig
import Derived.Test.YtcmmppkmkejniaaGreatDoorShelf
import Derived.WalkKit
import Derived.WalkSpells
import Derived.WalkLawsBesides
import Derived.Deep.QuietTactic
import Derived.BigQuiet
import Derived.LoopTactic
import Derived.Laws.BytesString
import Derived.Outline
import Derived.Lib.Hide
import Derived.Lib.TrimByte
import Derived.Laws.OwnMore
import Derived.Deep.AppendLies
import Derived.Deep.Draws
import Derived.Laws.Rows
import Derived.Maps.AppendAt
import Derived.RegionTactic
import Derived.OwnWalk
import Derived.Deep.Slices
import Derived.Deep.Fields
import Derived.ChangeSame
import Derived.Lib.SmallJoins
import Derived.BigFrame
import Derived.Deep.RegionHeld3
namespace Go.Proofs.YtcmmppkmkejniaaGreatDoor
open Go.RowKit
set_option linter.unusedVariables false
theorem ret_int {a b : Int} (h : a = b) : Ending.returned (.int .i64 a) = .returned (.int .i64 b) := by rw [h]
theorem pair_int {a b c d : Int} (h : a = b) (h' : c = d) : Ending.returned (.tuple #[.int .i64 a, .int .i64 c]) = .returned (.tuple #[.int .i64 b, .int .i64 d]) := by rw [h, h']
theorem ret_bool {a b : Bool} (h : a = b) : Ending.returned (.bool a) = .returned (.bool b) := by rw [h]
theorem ret_str {a b : List UInt8} (h : a = b) : Ending.returned (.string ⟨a.toArray⟩) = .returned (.string ⟨b.toArray⟩) := by rw [h]
theorem cat_mk (a b : List UInt8) : (⟨a.toArray⟩ ++ ⟨b.toArray⟩ : ByteArray) = ⟨(a ++ b).toArray⟩ := by
  apply ByteArray.ext
  simp
theorem ret_str' {a b : ByteArray} (h : a = b) : Ending.returned (.string a) = .returned (.string b) := by rw [h]
theorem mk_congr {a b : List UInt8} (h : a = b) : (⟨a.toArray⟩ : ByteArray) = ⟨b.toArray⟩ := by rw [h]
theorem ex_mk (l : List UInt8) (a b : Nat) : (⟨l.toArray⟩ : ByteArray).extract a b = ⟨((l.take b).drop a).toArray⟩ := by
  apply ByteArray.ext
  rw [ByteArray.data_extract]
  simp [List.extract_eq_drop_take']
theorem cat3_mk (a b c : List UInt8) : (⟨a.toArray⟩ ++ ⟨b.toArray⟩ ++ ⟨c.toArray⟩ : ByteArray) = ⟨(a ++ b ++ c).toArray⟩ := by rw [cat_mk, cat_mk]
theorem itoa_nat (x : Int) (m : Nat) (w : World) (hx : x = m) (hm : m ≤ 9223372036854775807) (hE : Env w) :
    Calls Tryz.prog 34 #[.int .i64 x] w fun e w' => e = .returned (.string ⟨(Lib.decDigits m).toArray⟩) ∧ Below w.heap.size w w' := by
  subst hx
  refine (Tryz.strconv_Itoa _ (by omega) (by omega) _ hE.tab).mono ?_
  rintro e w1 ⟨rfl, hw1⟩
  exact ⟨by rw [Lib.itoa_nonneg], below_itoa hw1⟩
theorem run_byte_string (w : World) (n : Int) : (convert 77 9 (.slice (some ⟨w.heap.size, 0, none⟩) 1 1)).run Tryz.prog (w.alloc (.cells #[.int .u8 n] 5)) = .ok (.string ⟨[UInt8.ofNat n.toNat].toArray⟩) (w.alloc (.cells #[.int .u8 n] 5)) := by
  rw [run_convert_bytes_string _ _ _ _ _ _ _ Tryz.underlying77 Tryz.underlying5 Tryz.underlying9]
  rw [run_bytesToString _ _ _ _ [n] (by simp [go_sem, loadCells])]
  rfl
def strLen : Value → Nat | .string s => s.size | _ => 0
theorem strLen_mk (l : List UInt8) : strLen (.string ⟨l.toArray⟩) = l.length := by simp [strLen, ByteArray.size]
theorem strLen_cat (a b : ByteArray) : strLen (.string (a ++ b)) = a.size + b.size := ByteArray.size_append
end Go.Proofs.YtcmmppkmkejniaaGreatDoor
namespace Go.Proofs.YtcmmppkmkejniaaGreatDoor
set_option linter.unusedVariables false
structure SRow where
  name : List UInt8
  level : Int
  from_ : Int
  to_ : Int
  neg : Bool
instance : Inhabited SRow := ⟨⟨[], 0, 0, 0, false⟩⟩
def prB (b : UInt8) : Bool := decide (32 ≤ b.toNat) && decide (b.toNat ≤ 126) && !(b == 34)
def nameOk (s : List UInt8) : Bool := s.all prB && (decide (1 ≤ s.length) && decide (s.length ≤ 16)) && (!(s.getD 0 0 == 32) && !(s.getD (s.length - 1) 0 == 32))
def isTitle (r : SRow) : Bool := decide (r.to_ < r.from_)
def rowIn (r : SRow) : Bool := if isTitle r then decide (r.from_ = 1) && decide (r.to_ = 0) && !r.neg else decide (0 ≤ r.from_) && decide (r.to_ ≤ 99999)
def okRow (before : Int) (r : SRow) : Bool := nameOk r.name && (decide (0 ≤ r.level) && decide (r.level ≤ 9) && decide (r.level ≤ before + 1)) && rowIn r
def validF : Int → List SRow → Bool
  | _, [] => true
  | b, r :: rs => okRow b r && validF r.level rs
def validR (rs : List SRow) : Bool := validF (-1) rs && decide (rs.length ≤ 300)
def lineL (r : SRow) : List UInt8 :=
  Lib.itoa r.level ++ [32, 34] ++ r.name ++ [34] ++ (if isTitle r then [] else [32] ++ Lib.itoa r.from_ ++ [46, 46] ++ Lib.itoa r.to_ ++ (if r.neg then [32, 45] else []))
def textL (rs : List SRow) : List UInt8 := rs.flatMap fun r => lineL r ++ [10]
/-- the level of the row before number k -/
def lvl (rs : List SRow) : Nat → Int
  | 0 => -1
  | k + 1 => (rs.getD k default).level
theorem okRow_level {b : Int} {r : SRow} (h : okRow b r = true) : 0 ≤ r.level ∧ r.level ≤ 9 := by
  unfold okRow at h
  simp only [Bool.and_eq_true, decide_eq_true_eq] at h
  omega
/-- all the rows are valid just where each is valid behind the one before it -/
theorem validF_at : ∀ (rs : List SRow) (b : Int), validF b rs = true ↔ ∀ k, k < rs.length → okRow (if k = 0 then b else (rs.getD (k - 1) default).level) (rs.getD k default) = true := by
  intro rs
  induction rs with
  | nil => intro b; simp [validF]
  | cons r rs ih =>
    intro b
    simp only [validF, Bool.and_eq_true]
    rw [ih]
    constructor
    · rintro ⟨h1, h2⟩ k hk
      cases k with
      | zero => simpa using h1
      | succ k =>
        have := h2 k (by simpa using hk)
        cases k with
        | zero => simpa using this
        | succ k => simpa using this
    · intro h
      refine ⟨by simpa using h 0 (by simp), fun k hk => ?_⟩
      have := h (k + 1) (by simpa using hk)
      cases k with
      | zero => simpa using this
      | succ k => simpa using this
theorem validF_lvl {rs : List SRow} : validF (-1) rs = true ↔ ∀ k, k < rs.length → okRow (lvl rs k) (rs.getD k default) = true := by
  rw [validF_at]
  constructor
  · intro h k hk
    have := h k hk
    cases k with
    | zero => exact this
    | succ k => simpa [lvl] using this
  · intro h k hk
    have := h k hk
    cases k with
    | zero => exact this
    | succ k => simpa [lvl] using this
theorem take_getD {α : Type} {l : List α} {k j : Nat} (d : α) (h : j < k) : (l.take k).getD j d = l.getD j d := by
  simp [List.getD, h]
theorem lvl_take {rs : List SRow} {k j : Nat} (h : j ≤ k) : lvl (rs.take k) j = lvl rs j := by
  cases j with
  | zero => rfl
  | succ j => simp only [lvl, take_getD _ (show j < k by omega)]
theorem validF_take {rs : List SRow} (h : validF (-1) rs = true) (k : Nat) : validF (-1) (rs.take k) = true := by
  rw [validF_lvl] at h ⊢
  intro j hj
  rw [List.length_take] at hj
  rw [lvl_take (by omega), take_getD _ (by omega)]
  exact h j (by omega)
theorem validF_step {rs : List SRow} {k : Nat} (hk : k < rs.length) (h : validF (-1) (rs.take k) = true) (h' : okRow (lvl rs k) (rs.getD k default) = true) : validF (-1) (rs.take (k + 1)) = true := by
  rw [validF_lvl] at h ⊢
  intro j hj
  rw [List.length_take] at hj
  rw [lvl_take (by omega), take_getD _ (by omega)]
  rcases Nat.lt_or_ge j k with hjk | hjk
  · have := h j (by rw [List.length_take]; omega)
    rwa [lvl_take (by omega), take_getD _ (by omega)] at this
  · obtain rfl : j = k := by omega
    exact h'
theorem validF_no {rs : List SRow} {k : Nat} (hk : k < rs.length) (h' : okRow (lvl rs k) (rs.getD k default) = false) : validF (-1) rs = false := by
  cases h : validF (-1) rs
  · rfl
  · have := validF_lvl.1 h k hk
    rw [h'] at this; cases this
theorem validF_level {rs : List SRow} (h : validF (-1) rs = true) {k : Nat} (hk : k < rs.length) : 0 ≤ (rs.getD k default).level ∧ (rs.getD k default).level ≤ 9 := okRow_level (validF_lvl.1 h k hk)
theorem textL_step {rs : List SRow} {k : Nat} (hk : k < rs.length) : textL (rs.take (k + 1)) = textL (rs.take k) ++ (lineL (rs.getD k default) ++ [10]) := by
  unfold textL
  rw [List.take_succ_eq_append_getElem hk, List.flatMap_append]
  have e : rs.getD k default = rs[k] := by simp [List.getD, hk]
  rw [e]; simp
theorem textL_prefix (rs : List SRow) (k : Nat) : ∃ t, textL rs = textL (rs.take k) ++ t := by
  refine ⟨textL (rs.drop k), ?_⟩
  unfold textL
  rw [← List.flatMap_append, List.take_append_drop]
/-! trimming spaces -/
theorem dropW_id {p : UInt8 → Bool} : ∀ {l : List UInt8}, (∀ b, l.head? = some b → p b = false) → l.dropWhile p = l := by
  intro l h
  cases l with
  | nil => rfl
  | cons x r => rw [List.dropWhile_cons, if_neg (by rw [h x rfl]; simp)]
theorem dropW_len (p : UInt8 → Bool) : ∀ l : List UInt8, (l.dropWhile p).length ≤ l.length := by
  intro l
  induction l with
  | nil => simp
  | cons x r ih => rw [List.dropWhile_cons]; split <;> simp <;> omega
theorem trimB_id {l : List UInt8} {c : UInt8} : (Lib.trimB l c == l) = (!(l.head? == some c) && !(l.getLast? == some c)) := by
  unfold Lib.trimB Lib.trimLeftB Lib.trimRightB
  rw [Bool.eq_iff_iff, beq_iff_eq]
  simp only [Bool.and_eq_true, Bool.not_eq_true', beq_eq_false_iff_ne, ne_eq]
  constructor
  · intro h
    have hlen : ((l.reverse.dropWhile (· == c)).reverse.dropWhile (· == c)).length = l.length := by rw [h]
    have h1 := dropW_len (· == c) (l.reverse.dropWhile (· == c)).reverse
    have h2 := dropW_len (· == c) l.reverse
    rw [List.length_reverse] at h1 h2
    have hr : l.reverse.dropWhile (· == c) = l.reverse := by
      cases hl : l.reverse with
      | nil => rfl
      | cons x r =>
        rw [List.dropWhile_cons]
        split
        · rename_i hx
          exfalso
          rw [hl, List.dropWhile_cons, if_pos hx] at h1 hlen
          have h3 := dropW_len (· == c) r
          have h4 : l.length = r.length + 1 := by rw [← List.length_reverse, hl]; rfl
          omega
        · rfl
    rw [hr, List.reverse_reverse] at h
    constructor
    · intro hh
      cases l with
      | nil => simp at hh
      | cons x r =>
        simp only [List.head?_cons, Option.some.injEq] at hh
        subst hh
        rw [List.dropWhile_cons, if_pos (by simp)] at h
        have := dropW_len (· == x) r
        have := congrArg List.length h
        simp at this
        omega
    · intro hh
      rw [List.getLast?_eq_head?_reverse] at hh
      cases hl : l.reverse with
      | nil => rw [hl] at hh; simp at hh
      | cons x r =>
        rw [hl] at hh hr
        simp only [List.head?_cons, Option.some.injEq] at hh
        subst hh
        rw [List.dropWhile_cons, if_pos (by simp)] at hr
        have := dropW_len (· == x) r
        have := congrArg List.length hr
        simp at this
        omega
  · rintro ⟨h1, h2⟩
    have hr : l.reverse.dropWhile (· == c) = l.reverse := dropW_id (by
      intro b hb
      rw [← List.getLast?_eq_head?_reverse] at hb
      simp only [beq_eq_false_iff_ne]
      rintro rfl
      exact h2 hb)
    rw [hr, List.reverse_reverse]
    exact dropW_id (by
      intro b hb
      simp only [beq_eq_false_iff_ne]
      rintro rfl
      exact h1 hb)
theorem ends_getD {s : List UInt8} (h : 1 ≤ s.length) (c : UInt8) : (!(s.head? == some c) && !(s.getLast? == some c)) = (!(s.getD 0 0 == c) && !(s.getD (s.length - 1) 0 == c)) := by
  have e1 : s.head? = some (s.getD 0 0) := by
    cases s with
    | nil => simp at h
    | cons x r => rfl
  have e2 : s.getLast? = some (s.getD (s.length - 1) 0) := by
    rw [List.getLast?_eq_getElem?]
    simp [List.getD, show s.length - 1 < s.length by omega]
  rw [e1, e2]
  rfl
end Go.Proofs.YtcmmppkmkejniaaGreatDoor
namespace Go.Proofs.YtcmmppkmkejniaaGreatDoor
open Go.RowKit Go.ChangeShapes
set_option linter.unusedVariables false
theorem block_of_add (a : Addr) (n : Nat) : (a.add n).block = a.block := by unfold Addr.add; split <;> rfl
theorem add_of_add (a : Addr) (i j : Nat) : (a.add i).add j = a.add (i + j) := by
  unfold Addr.add
  by_cases hi : i = 0 <;> by_cases hj : j = 0 <;> simp [hi, hj, Nat.add_assoc]

def Reads (w : World) (B size : Nat) (A : Option Addr) (n : Nat) (xs : List Value) : Prop :=
  xs.length = n * size ∧ (0 < n → ∃ ad, A = some ad ∧ ad.block < B ∧ ∀ j u, xs[j]? = some u → w.cell? (ad.add j) = some u)

section
variable {w w' : World} {B B' size n : Nat} {A : Option Addr} {xs : List Value}
theorem Reads.none_ : Reads w B size A 0 [] := ⟨by simp, fun h => absurd h (by omega)⟩
theorem Reads.at_ {k : Nat} (h : Reads w B 1 A n xs) (hk : k < n) : ∃ ad u, A = some ad ∧ ad.block < B ∧ xs[k]? = some u ∧ w.cell? (ad.add k) = some u := by
  obtain ⟨ad, e, hb, hc⟩ := h.2 (by omega)
  have hl : k < xs.length := by have := h.1; omega
  exact ⟨ad, xs[k], e, hb, List.getElem?_eq_getElem hl, hc k _ (List.getElem?_eq_getElem hl)⟩
theorem Reads.keep (h : Reads w B size A n xs) (hk : ∀ p : Addr, p.block < B → w'.cell? p = w.cell? p) : Reads w' B size A n xs :=
  ⟨h.1, fun hn => by
    obtain ⟨ad, e, hb, hc⟩ := h.2 hn
    exact ⟨ad, e, hb, fun j u hu => (hk _ (by rw [block_of_add]; exact hb)).trans (hc j u hu)⟩⟩
theorem Reads.more (h : Reads w B size A n xs) (hB : B ≤ B') : Reads w B' size A n xs :=
  ⟨h.1, fun hn => by
    obtain ⟨ad, e, hb, hc⟩ := h.2 hn
    exact ⟨ad, e, by omega, hc⟩⟩
theorem Reads.below (h : Reads w B size A n xs) (hb : Below B w w') : Reads w' B size A n xs := h.keep fun _ hp => hb.cell hp
theorem Reads.drew (h : Reads w B size A n xs) : Reads w.drew B size A n xs := h
theorem Reads.drewN (h : Reads w B size A n xs) (k : Nat) : Reads (w.drewN k) B size A n xs := h
theorem Reads.alloc (h : Reads w B size A n xs) (hB : B ≤ w.heap.size) (o : Obj) : Reads (w.alloc o) B size A n xs := h.keep fun p hp => World.cell?_alloc_lt w o p (by omega)
theorem Reads.setCell (h : Reads w B size A n xs) {p : Addr} (hB : B ≤ p.block) (u : Value) : Reads (w.setCell p u) B size A n xs :=
  h.keep fun q hq => World.cell?_setCell_other w p q u (fun e => by subst e; omega)
theorem Reads.grown (h : Reads w B size A n xs) {row : Option Nat} (hg : w.grownBy w' row) (hB : B ≤ w.heap.size) (hr : ∀ g, row = some g → B ≤ g) : Reads w' B size A n xs :=
  h.keep fun p hp => World.cell?_of_block (hg.block p.block (by omega) (fun e => by have := hr _ e.symm; omega))
theorem Reads.cut (h : Reads w B size A n xs) {k cap : Nat} (hk : k ≤ n) (hc : n ≤ cap) :
    Reads w B size (if cap = k then A else A.map (·.add (k * size))) (n - k) (xs.drop (k * size)) := by
  refine ⟨by rw [List.length_drop, h.1, Nat.sub_mul], fun hn => ?_⟩
  obtain ⟨ad, rfl, hb, hcell⟩ := h.2 (by omega)
  rw [if_neg (by omega)]
  refine ⟨ad.add (k * size), rfl, by rw [block_of_add]; exact hb, fun j u hu => ?_⟩
  rw [add_of_add]
  exact hcell _ u (by rw [← hu, List.getElem?_drop])
theorem Reads.of_own {base : Nat} {e : TypeId} {c : Nat} (h : w.ownsRow base e size (.slice A n c) n xs) : Reads w w.heap.size size A n xs := by
  refine ⟨h.1, fun hn => ?_⟩
  obtain ⟨g, cap, hv, _, hlt⟩ := h.form hn
  have hA : A = some ⟨g, 0, none⟩ := by injection hv
  subst hA
  exact ⟨_, rfl, hlt, h.cells (g := g) rfl⟩
end

def Blk (w : World) (g : Nat) (t : TypeId) (cs : Array Value) : Prop := w.heap[g]? = some (.cells cs t (0, 0))

section
variable {w w' : World} {g : Nat} {t : TypeId} {cs : Array Value}
theorem Blk.lt (h : Blk w g t cs) : g < w.heap.size := by
  rcases Nat.lt_or_ge g w.heap.size with hlt | hge
  · exact hlt
  · unfold Blk at h; rw [Array.getElem?_eq_none hge] at h; cases h
theorem Blk.cell (h : Blk w g t cs) (i : Nat) : w.cell? ⟨g, i, none⟩ = cs[i]? := cell_of_row w g i cs t (0, 0) h
theorem Blk.frozen (h : Blk w g t cs) (i : Nat) : w.frozen? ⟨g, i, none⟩ = false := by
  unfold Blk at h
  simp [World.frozen?, h]
theorem Blk.new (w : World) (t : TypeId) (cs : Array Value) : Blk (w.alloc (.cells cs t)) w.heap.size t cs := heap_alloc_new w _
theorem Blk.drew (h : Blk w g t cs) : Blk w.drew g t cs := h
theorem Blk.drewN (h : Blk w g t cs) (n : Nat) : Blk (w.drewN n) g t cs := h
theorem Blk.alloc (h : Blk w g t cs) (o : Obj) : Blk (w.alloc o) g t cs := (Below.heap_alloc w o g h.lt).trans h
theorem Blk.set_ (h : Blk w g t cs) (i : Nat) (u : Value) : Blk (w.setCell ⟨g, i, none⟩ u) g t (cs.setIfInBounds i u) := by
  unfold Blk at h ⊢
  simp [World.setCell, Array.getElem?_modify, h]
theorem Blk.far (h : Blk w g t cs) {p : Addr} (hp : g ≠ p.block) (u : Value) : Blk (w.setCell p u) g t cs := (Below.heap_setCell w p u g hp).trans h
theorem Blk.below {B : Nat} (h : Blk w g t cs) (hb : Below B w w') (hg : g < B) : Blk w' g t cs := (hb.block g hg).trans h
theorem Blk.grown {row : Option Nat} (h : Blk w g t cs) (hb : w.grownBy w' row) (hg : some g ≠ row) : Blk w' g t cs := (hb.block g h.lt hg).trans h
theorem Blk.ne_ {g' : Nat} {t' : TypeId} {cs' : Array Value} (h : Blk w g t cs) (h' : Blk w g' t' cs') (hne : t ≠ t') : g ≠ g' := by
  rintro rfl
  unfold Blk at h h'
  rw [h] at h'
  injection h' with h'
  injection h' with _ ht
  exact hne ht
theorem own_blk_ne {base : Nat} {e : TypeId} {size n : Nat} {v : Value} {xs : List Value} (h : w.ownsRow base e size v n xs) (hg : Blk w g t cs) (hne : e ≠ t) : v.ownBlock ≠ some g := by
  rcases h.2 with ⟨rfl, _⟩ | ⟨g', cap, cur, rfl, _, hh, _⟩
  · simp [Value.ownBlock]
  · intro he
    have : g' = g := by simpa [Value.ownBlock] using he
    subst this
    exact Blk.ne_ (t := e) hh hg hne rfl
end

section
variable {P : Program} (w : World)

theorem run_append_of_nil (base : Nat) (t ty e : TypeId) (i : TypeInfo) (size : Nat) (ht : P.underlying t = some (.slice e)) (hi : P.info? e = some i)
    (v : Value) (n : Nat) (xs : List Value) (hown : w.ownsRow base e size v n xs) (c : Nat) : (Builtin.append_ #[t, t] ty #[v, .slice none 0 c]).run P w = .ok v w := by
  rcases hown.2 with ⟨rfl, rfl⟩ | ⟨g, cap, cur, rfl, _, _, hnc, _⟩
  · simp [Builtin.append_, run_underlying ht, sizeOf, typeInfo, hi, Builtin.lenOf, Builtin.firstCells]
  · simp [Builtin.append_, run_underlying ht, sizeOf, typeInfo, hi, Builtin.lenOf, Builtin.firstCells, hnc, storeCells]

theorem run_append_any (base : Nat) (t ty e : TypeId) (i : TypeInfo) (z : Value) (size bytes : Nat) (ht : P.underlying t = some (.slice e)) (hi : P.info? e = some i) (hz : i.zero = some z)
    (hsize : i.size = size) (hby : i.bytes = bytes) (hzs : z.cells.size = size) (hsz : 0 < size)
    (v : Value) (n : Nat) (xs : List Value) (hown : w.ownsRow base e size v n xs)
    (B : Nat) (A : Option Addr) (m c : Nat) (news : List Value) (hr : Reads w B size A m news) (h1 : ∀ u ∈ news, u.oneCell' = true)
    (h63 : n + m ≤ maxLen) (hbytes : (n + m) * bytes ≤ 140737488355328) (hbase : base ≤ w.heap.size) :
    ∃ v' w', (Builtin.append_ #[t, t] ty #[v, .slice A m c]).run P w = .ok v' w' ∧ w'.ownsRow base e size v' (n + m) (xs ++ news) ∧ w.grownBy w' v.ownBlock ∧
      (v'.ownBlock = v.ownBlock ∨ v'.ownBlock = some w.heap.size) := by
  rcases A with _ | ad
  · have hm : m = 0 := by
      rcases Nat.eq_zero_or_pos m with h0 | h0
      · exact h0
      · obtain ⟨ad, h, _⟩ := hr.2 h0
        cases h
    subst hm
    have hn : news = [] := List.eq_nil_of_length_eq_zero (by simpa using hr.1)
    subst hn
    exact ⟨v, w, run_append_of_nil w base t ty e i size ht hi v n xs hown c, by simpa using hown, World.grownBy.refl w _, .inl rfl⟩
  · have hcells : ∀ j u, news[j]? = some u → w.cell? (ad.add j) = some u := by
      intro j u hu
      rcases Nat.eq_zero_or_pos m with h0 | h0
      · subst h0
        have hn : news = [] := List.eq_nil_of_length_eq_zero (by simpa using hr.1)
        subst hn
        simp at hu
      · obtain ⟨ad', h, _, hc⟩ := hr.2 h0
        injection h with h
        subst h
        exact hc j u hu
    obtain ⟨v', w', hrun, h2, h3, _, h5⟩ := run_append_own_at (P := P) w base t ty e i z size bytes ht hi hz hsize hby hzs hsz v n xs hown ad m c news hr.1 hcells h1 h63 hbytes hbase
    exact ⟨v', w', hrun, h2, h3, h5⟩

theorem wp_append_any {o : Oper} {a : Act} {K : Act → World → Prop} {Q : Exit → Act → World → Prop} (s x : Operand) (t : TypeId)
    (ho : o.op = .call { callee := .builtin .append, args := #[s, x], argTypes := #[t, t] })
    (base : Nat) (e : TypeId) (i : TypeInfo) (z : Value) (size bytes : Nat) (ht : P.underlying t = some (.slice e)) (hi : P.info? e = some i) (hz : i.zero = some z)
    (hsize : i.size = size) (hby : i.bytes = bytes) (hzs : z.cells.size = size) (hsz : 0 < size)
    (v : Value) (n : Nat) (xs : List Value) (hs : a.eval s = v) (hown : w.ownsRow base e size v n xs)
    (B : Nat) (A : Option Addr) (m c : Nat) (news : List Value) (hx : a.eval x = .slice A m c) (hr : Reads w B size A m news) (h1 : ∀ u ∈ news, u.oneCell' = true)
    (h63 : n + m ≤ maxLen) (hbytes : (n + m) * bytes ≤ 140737488355328) (hbase : base ≤ w.heap.size)
    (h : ∀ v' w', w'.ownsRow base e size v' (n + m) (xs ++ news) → w.grownBy w' v.ownBlock → (v'.ownBlock = v.ownBlock ∨ v'.ownBlock = some w.heap.size) → K (a.put o.dst v') w') : o.wp P a w K Q := by
  obtain ⟨v', w', hrun, h2, h3, h4⟩ := run_append_any (P := P) w base t o.type e i z size bytes ht hi hz hsize hby hzs hsz v n xs hown B A m c news hr h1 h63 hbytes hbase
  unfold Oper.wp execOp
  simp only [ho, resolve, invoke, builtin, Sem.run_bind, Sem.run_pure, Result.andThen_ok, List.map_toArray, List.map_cons, List.map_nil, hs, hx, hrun]
  exact h v' w' h2 h3 h4

theorem wpList_append_any {ops : Array Oper} {rest : List Oper} {o : Oper} {a : Act} {Q : Exit → Act → World → Prop} (hgd : o.guard = none) (s x : Operand) (t : TypeId)
    (ho : o.op = .call { callee := .builtin .append, args := #[s, x], argTypes := #[t, t] })
    (base : Nat) (e : TypeId) (i : TypeInfo) (z : Value) (size bytes : Nat) (ht : P.underlying t = some (.slice e)) (hi : P.info? e = some i) (hz : i.zero = some z)
    (hsize : i.size = size) (hby : i.bytes = bytes) (hzs : z.cells.size = size) (hsz : 0 < size)
    (v : Value) (n : Nat) (xs : List Value) (hs : a.eval s = v) (hown : w.ownsRow base e size v n xs)
    (B : Nat) (A : Option Addr) (m c : Nat) (news : List Value) (hx : a.eval x = .slice A m c) (hr : Reads w B size A m news) (h1 : ∀ u ∈ news, u.oneCell' = true)
    (h63 : n + m ≤ maxLen) (hbytes : (n + m) * bytes ≤ 140737488355328) (hbase : base ≤ w.heap.size)
    (h : ∀ v' w', w'.ownsRow base e size v' (n + m) (xs ++ news) → w.grownBy w' v.ownBlock → (v'.ownBlock = v.ownBlock ∨ v'.ownBlock = some w.heap.size) → wpList P ops Q rest (a.put o.dst v') w') : wpList P ops Q (o :: rest) a w :=
  wpList_plain hgd fun _ hK => wp_append_any w s x t ho base e i z size bytes ht hi hz hsize hby hzs hsz v n xs hs hown B A m c news hx hr h1 h63 hbytes hbase fun v' w' h2 h3 h4 => hK _ _ (h v' w' h2 h3 h4)

theorem step_append_any {ops : Array Oper} {o : Oper} {a : Act} {K : Act → World → Prop} {Q : Exit → Act → World → Prop} {E : Prop} (hgd : o.guard = none) (s x : Operand) (t : TypeId)
    (ho : o.op = .call { callee := .builtin .append, args := #[s, x], argTypes := #[t, t] })
    (base : Nat) (e : TypeId) (i : TypeInfo) (z : Value) (size bytes : Nat) (ht : P.underlying t = some (.slice e)) (hi : P.info? e = some i) (hz : i.zero = some z)
    (hsize : i.size = size) (hby : i.bytes = bytes) (hzs : z.cells.size = size) (hsz : 0 < size)
    (v : Value) (n : Nat) (xs : List Value) (hs : a.eval s = v) (hown : w.ownsRow base e size v n xs)
    (B : Nat) (A : Option Addr) (m c : Nat) (news : List Value) (hx : a.eval x = .slice A m c) (hr : Reads w B size A m news) (h1 : ∀ u ∈ news, u.oneCell' = true)
    (h63 : n + m ≤ maxLen) (hbytes : (n + m) * bytes ≤ 140737488355328) (hbase : base ≤ w.heap.size)
    (h : ∀ v' w', w'.ownsRow base e size v' (n + m) (xs ++ news) → w.grownBy w' v.ownBlock → (v'.ownBlock = v.ownBlock ∨ v'.ownBlock = some w.heap.size) → K (a.put o.dst v') w') :
    if Region.wanted o (yielded ops a.tmps) = true then Oper.wp P o a w K Q else E := by
  have hw : Region.wanted o (yielded ops a.tmps) = true := by simp [Region.wanted, hgd]
  rw [if_pos hw]
  exact wp_append_any w s x t ho base e i z size bytes ht hi hz hsize hby hzs hsz v n xs hs hown B A m c news hx hr h1 h63 hbytes hbase h
end

/-- a slice of ints: what is read at an index -/
theorem Reads.int_at {w : World} {B n k : Nat} {A : Option Addr} {zs : List Int} (h : Reads w B 1 A n (zs.map (Value.int .i64))) (hk : k < n) :
    ∃ ad, A = some ad ∧ ad.block < B ∧ w.cell? (ad.add k) = some (.int .i64 (zs.getD k 0)) := by
  obtain ⟨ad, u, rfl, hb, hx, hc⟩ := h.at_ hk
  refine ⟨ad, rfl, hb, hc.trans ?_⟩
  rw [List.getElem?_map] at hx
  cases hz : zs[k]? with
  | none => rw [hz] at hx; cases hx
  | some z =>
    rw [hz] at hx
    simp at hx
    rw [← hx]; simp [List.getD, hz]
theorem Reads.int_len {w : World} {B n : Nat} {A : Option Addr} {zs : List Int} (h : Reads w B 1 A n (zs.map (Value.int .i64))) : zs.length = n := by
  have := h.1
  simpa using this
theorem block_lt {w : World} {a : Addr} {v : Value} (h : w.cell? a = some v) : a.block < w.heap.size := by
  rcases Nat.lt_or_ge a.block w.heap.size with hl | hl
  · exact hl
  · unfold World.cell? at h
    rw [Array.getElem?_eq_none hl] at h
    cases h
set_option maxRecDepth 100000 in
/-- an argument that is a slice of ints -/
theorem open_slice_ints {H : Type} {enc : TypeId × Value → H} {W : World} {r : Reach} {b0 base T E : Nat} {spare : Nat → Bool} {held : Bool} {v : Value} {d : DataW H} {p : List MemPlace}
    (ht : Tryz.prog.underlying T = some (.slice E)) (he : Tryz.prog.underlying E = some (.int .i64)) (hc : Tryz.prog.cellsOf E = 1)
    (hv : Value.okWide Tryz.prog W r b0 T v) (h : DataW.Trod enc Tryz.prog W base spare held T v d p) :
    ∃ (A : Option Addr) (n c : Nat) (zs : List Int), v = .slice A n c ∧ Reads W W.heap.size 1 A n (zs.map (Value.int .i64)) ∧ (∀ z ∈ zs, (Lit.int .i64 z).wf = true) ∧ n ≤ 9223372036854775807 ∧ n ≤ c := by
  obtain ⟨a0, len, cap, rfl⟩ := Go.WideShapes.okWide_slice ht hv
  obtain ⟨fuel, hf⟩ := h
  rcases open_ints ht he hc hf with ⟨hcs, _⟩ | ⟨a, len', cap', zs, hcs, _, hl, hm, hz, _, hcell, hwz⟩
  · simp [Value.cells] at hcs
    obtain ⟨rfl, rfl, rfl⟩ := hcs
    exact ⟨none, 0, 0, [], rfl, Reads.none_, by simp, by omega, by omega⟩
  · simp [Value.cells] at hcs
    obtain ⟨rfl, rfl, rfl⟩ := hcs
    unfold maxLen at hm
    have hlen : len ≤ zs.length := by rw [hz]; split <;> omega
    refine ⟨some a, len, cap, zs.take len, rfl, ⟨by simp; omega, fun hn => ⟨a, rfl, ?_, fun j u hj => ?_⟩⟩, fun z hz => hwz z (List.mem_of_mem_take hz), by omega, hl⟩
    · have := block_lt (hcell 0 (by omega))
      rwa [block_of_add] at this
    · rw [List.getElem?_map] at hj
      cases hx : (zs.take len)[j]? with
      | none => rw [hx] at hj; cases hj
      | some z =>
        rw [hx] at hj
        simp only [Option.map_some, Option.some.injEq] at hj
        subst hj
        have hj2 : j < (zs.take len).length := (List.getElem?_eq_some_iff.1 hx).1
        rw [List.length_take] at hj2
        rw [hcell j (by omega)]
        rw [List.getElem?_take] at hx
        simp only [show j < len by omega, if_true] at hx
        simp [List.getD, hx]
end Go.Proofs.YtcmmppkmkejniaaGreatDoor
namespace Go.Proofs.YtcmmppkmkejniaaGreatDoor
open Go.RowKit Go.ChangeShapes
set_option linter.unusedVariables false
theorem grown_of_below {a w : World} (h : Below a.heap.size a w) (row : Option Nat) : a.grownBy w row := ⟨h.os, h.tape, h.output, h.size, fun i hi _ => h.block i hi⟩
section
variable {w w' : World} {base n size : Nat} {e : TypeId} {v : Value} {xs : List Value}
theorem own_below (h : w.ownsRow base e size v n xs) (hb : Below w.heap.size w w') : w'.ownsRow base e size v n xs :=
  h.kept (grown_of_below hb none) (by cases v.ownBlock <;> simp)
theorem own_slice (h : w.ownsRow base e size v n xs) : ∃ A c, v = .slice A n c := by
  obtain ⟨_, h⟩ := h
  rcases h with ⟨rfl, rfl⟩ | ⟨g, cap, cur, rfl, _⟩
  · exact ⟨_, _, rfl⟩
  · exact ⟨_, _, rfl⟩
theorem own_base (h : w.ownsRow base e size v n xs) : ∀ k, v.ownBlock = some k → base ≤ k := by
  intro k hk
  obtain ⟨_, h⟩ := h
  rcases h with ⟨rfl, rfl⟩ | ⟨g, cap, cur, rfl, hb, _⟩
  · cases hk
  · cases hk; exact hb
theorem own_lt (h : w.ownsRow base e size v n xs) : ∀ k, v.ownBlock = some k → k < w.heap.size := by
  intro k hk
  obtain ⟨_, h⟩ := h
  rcases h with ⟨rfl, rfl⟩ | ⟨g, cap, cur, rfl, hb, hh, _⟩
  · cases hk
  · obtain rfl : g = k := by simpa [Value.ownBlock] using hk
    rcases Nat.lt_or_ge g w.heap.size with hl | hl
    · exact hl
    · rw [Array.getElem?_eq_none hl] at hh; cases hh
theorem own_mono {b' : Nat} (h : w.ownsRow base e size v n xs) (hb : b' ≤ base) : w.ownsRow b' e size v n xs := by
  obtain ⟨h1, h⟩ := h
  refine ⟨h1, ?_⟩
  rcases h with h | ⟨g, cap, cur, h2, h3, h4⟩
  · exact .inl h
  · exact .inr ⟨g, cap, cur, h2, by omega, h4⟩
end
theorem reads_lit (w : World) (cs : Array Value) (T : TypeId) : Reads (w.alloc (.cells cs T)) (w.heap.size + 1) 1 (some ⟨w.heap.size, 0, none⟩) cs.size cs.toList := by
  refine ⟨by simp, fun _ => ⟨_, rfl, Nat.lt_succ_self _, fun j u hj => ?_⟩⟩
  have hb := Blk.new w T cs
  have e : (⟨w.heap.size, 0, none⟩ : Addr).add j = ⟨w.heap.size, j, none⟩ := by unfold Addr.add; split <;> simp_all
  rw [e, hb.cell j, ← hj]
  simp
/-- the one element of a literal of one element, 'size' cells wide -/
theorem reads_one (w : World) (cs : Array Value) (T : TypeId) (size : Nat) (h : cs.size = 1 * size) : Reads (w.alloc (.cells cs T)) (w.heap.size + 1) size (some ⟨w.heap.size, 0, none⟩) 1 cs.toList := by
  refine ⟨by simpa using h, fun _ => ⟨_, rfl, Nat.lt_succ_self _, fun j u hj => ?_⟩⟩
  have hb := Blk.new w T cs
  have e : (⟨w.heap.size, 0, none⟩ : Addr).add j = ⟨w.heap.size, j, none⟩ := by unfold Addr.add; split <;> simp_all
  rw [e, hb.cell j, ← hj]
  simp
end Go.Proofs.YtcmmppkmkejniaaGreatDoor
namespace Go.Proofs.YtcmmppkmkejniaaGreatDoor
open Go.RowKit
set_option linter.unusedVariables false
def rowCells (r : SRow) : List Value := [.string ⟨r.name.toArray⟩, .int .i64 r.level, .int .i64 r.from_, .int .i64 r.to_, .bool r.neg]
def rowV (r : SRow) : Value := .agg #[.string ⟨r.name.toArray⟩, .int .i64 r.level, .int .i64 r.from_, .int .i64 r.to_, .bool r.neg]
def rowsCells (rs : List SRow) : List Value := rs.flatMap rowCells
theorem prB_iff {b : UInt8} : prB b = true ↔ 32 ≤ b.toNat ∧ b.toNat ≤ 126 ∧ b.toNat ≠ 34 := by
  unfold prB
  simp only [Bool.and_eq_true, decide_eq_true_eq, Bool.not_eq_true', beq_eq_false_iff_ne, ne_eq]
  constructor
  · rintro ⟨⟨h1, h2⟩, h3⟩; exact ⟨h1, h2, fun h => h3 (UInt8.toNat_inj.1 h)⟩
  · rintro ⟨h1, h2, h3⟩; exact ⟨⟨h1, h2⟩, fun h => h3 (by rw [h]; rfl)⟩
theorem prB_no {b : UInt8} (h : prB b = false) : b.toNat < 32 ∨ 126 < b.toNat ∨ b.toNat = 34 := by
  by_cases h1 : b.toNat < 32
  · exact .inl h1
  · by_cases h2 : 126 < b.toNat
    · exact .inr (.inl h2)
    · refine .inr (.inr ?_)
      by_cases h3 : b.toNat = 34
      · exact h3
      · exfalso
        have := prB_iff.2 ⟨by omega, by omega, h3⟩
        rw [h] at this; cases this
theorem nameOk_bad {l : List UInt8} {k : Nat} (hk : k < l.length) (h : prB (l.getD k 0) = false) : nameOk l = false := by
  unfold nameOk; rw [all_not_at hk h]; rfl
theorem title_any (r : SRow) (w : World) : Calls Tryz.prog 45 #[rowV r] w fun e w' => e = .returned (.bool (isTitle r)) ∧ Below w.heap.size w w' := by
  unfold isTitle rowV
  go_enter Tryz.func45, Tryz.ntmps45
  go_wp2_with fail
  go_ret
  exact ⟨rfl, (Below.refl _ _).alloc (Nat.le_refl _) _⟩
theorem refTitle_any (r : SRow) (w : World) : Calls Tryz.prog 15 #[rowV r] w fun e w' => e = .returned (.bool (isTitle r)) ∧ Below w.heap.size w w' := by
  unfold isTitle rowV
  go_enter Tryz.func15, Tryz.ntmps15
  go_wp2_with fail
  go_ret
  exact ⟨rfl, (Below.refl _ _).alloc (Nat.le_refl _) _⟩
set_option maxHeartbeats 1000000 in
theorem named_any (l : List UInt8) (w : World) (hl : l.length ≤ 140737488351232) :
    Calls Tryz.prog 44 #[.string ⟨l.toArray⟩] w fun e w' => e = .returned (.bool (nameOk l)) ∧ Below w.heap.size w w' := by
  go_enter Tryz.func44, Tryz.ntmps44
  go_wp2_with fail
  go_loop [6] (fun i => ∃ k : Nat, k ≤ l.length ∧ i = .int .i64 k ∧ (l.take k).all prB = true) (fun i => l.length - (intOf i).toNat)
  case atStart => exact ⟨0, Nat.zero_le _, rfl, rfl⟩
  case round =>
    obtain ⟨k, hk, rfl, hd⟩ := hrel
    have HD := Lib.hid hd
    clear hd
    by_cases hlt : k < l.length
    · have hsz : k < (⟨l.toArray⟩ : ByteArray).size := by rw [mk_size]; exact hlt
      have hg := mk_getD l k hsz
      cases hc : prB (l.getD k 0)
      · have F := Lib.hid (nameOk_bad hlt hc)
        have hno := prB_no hc
        rw [← hg] at hno
        clear hg hc
        rcases hno with g1 | g1 | g1
        · have g2 : ((⟨l.toArray⟩ : ByteArray)[k].toNat : Int) < 32 := by omega
          clear g1
          go_wp2_with fail
          go_ret
          exact ⟨ret_bool F.out.symm, Below.refl _ _⟩
        · have g2 : (126 : Int) < ((⟨l.toArray⟩ : ByteArray)[k].toNat : Int) := by omega
          have g3 : decide (((⟨l.toArray⟩ : ByteArray)[k].toNat : Int) < 32) = false := by rw [decide_eq_false_iff_not]; omega
          clear g1
          go_wp2_with fail
          go_ret
          exact ⟨ret_bool F.out.symm, Below.refl _ _⟩
        · have g2 : (((⟨l.toArray⟩ : ByteArray)[k].toNat : Int) == 34) = true := by rw [beq_iff_eq]; omega
          have g3 : decide (((⟨l.toArray⟩ : ByteArray)[k].toNat : Int) < 32) = false := by rw [decide_eq_false_iff_not]; omega
          have g4 : decide ((126 : Int) < ((⟨l.toArray⟩ : ByteArray)[k].toNat : Int)) = false := by rw [decide_eq_false_iff_not]; omega
          clear g1
          go_wp2_with fail
          go_ret
          exact ⟨ret_bool F.out.symm, Below.refl _ _⟩
      · have h12 := prB_iff.1 hc
        rw [← hg] at h12
        have g1 : decide (((⟨l.toArray⟩ : ByteArray)[k].toNat : Int) < 32) = false := by rw [decide_eq_false_iff_not]; omega
        have g2 : decide ((126 : Int) < ((⟨l.toArray⟩ : ByteArray)[k].toNat : Int)) = false := by rw [decide_eq_false_iff_not]; omega
        have g3 : (((⟨l.toArray⟩ : ByteArray)[k].toNat : Int) == 34) = false := by rw [beq_eq_false_iff_ne]; omega
        have F := Lib.hid (take_all_succ hlt HD.out hc)
        clear hg hc h12
        go_wp2_with fail
        go_round
        case rel => exact ⟨k + 1, by omega, by go_num, F.out⟩
        case measure => simp [intOf]; omega
    · have hT : l.all prB = true := by have := HD.out; rwa [List.take_of_length_le (by omega)] at this
      have hN : nameOk l = ((decide (1 ≤ l.length) && decide (l.length ≤ 16)) && (!(l.getD 0 0 == 32) && !(l.getD (l.length - 1) 0 == 32))) := by unfold nameOk; rw [hT]; rfl
      by_cases h1 : 1 ≤ l.length
      · by_cases h16 : l.length ≤ 16
        · have hE : nameOk l = (Lib.trimB l 32 == l) := by rw [hN, trimB_id, ends_getD h1, decide_eq_true h1, decide_eq_true h16]; rfl
          have HE := Lib.hid hE
          have hd1 : decide ((1 : Int) ≤ (l.length : Int)) = true := by rw [decide_eq_true_eq]; omega
          have hd2 : decide ((l.length : Int) ≤ 16) = true := by rw [decide_eq_true_eq]; omega
          clear hE hN hT
          go_wp2_with fail
          refine (Tryz.strings_Trim_one ⟨l.toArray⟩ 32 (by decide) _ (by rw [mk_size]; omega)).mono ?_
          rintro e w' ⟨rfl, hw⟩
          have hb : Below w.heap.size w w' := by
            rcases hw with rfl | rfl
            · exact Below.refl _ _
            · exact below_drewN (Below.refl _ _) 1
          have HB := Lib.hid hb
          rw [show (⟨l.toArray⟩ : ByteArray).data.toList = l from by simp]
          clear hw hb
          go_wp2_with fail
          go_ret
          exact ⟨ret_bool HE.out.symm, HB.out⟩
        · have F : Hid (nameOk l = false) := by show _ = _; rw [hN, decide_eq_false h16]; simp
          have hd1 : decide ((1 : Int) ≤ (l.length : Int)) = true := by rw [decide_eq_true_eq]; omega
          have hd2 : decide ((l.length : Int) ≤ 16) = false := by rw [decide_eq_false_iff_not]; omega
          clear hN hT
          go_wp2_with fail
          go_ret
          exact ⟨ret_bool F.out.symm, Below.refl _ _⟩
      · have F : Hid (nameOk l = false) := by show _ = _; rw [hN, decide_eq_false h1]; rfl
        have hd1 : decide ((1 : Int) ≤ (l.length : Int)) = false := by rw [decide_eq_false_iff_not]; omega
        clear hN hT
        go_wp2_with fail
        go_ret
        exact ⟨ret_bool F.out.symm, Below.refl _ _⟩
end Go.Proofs.YtcmmppkmkejniaaGreatDoor
namespace Go.Proofs.YtcmmppkmkejniaaGreatDoor
open Go.RowKit Go.ChangeShapes Go.WideShapes Go.Deep
set_option linter.unusedVariables false
section
variable {H : Type} {enc : TypeId × Value → H} {P : Program} {w : World} {base : Nat} {spare : Nat → Bool} {held : Bool}
theorem open_slice_fields {t e : TypeId} {fs : Array Field} {fuel : Nat} {cs : List Value} {x : DataW H × List MemPlace} (ht : P.underlying t = some (.slice e)) (he : P.underlying e = some (.struct fs))
    (hone : oneCellFields P fs = true) (hC : P.cellsOf e = fs.size) (h : DataW.trod enc P w base spare held fuel t cs = some x) :
    (cs = [.slice none 0 0] ∧ x = (.nil, [])) ∨
    ∃ (a : Addr) (len cap m : Nat) (D : Nat → DataW H) (Pl : Nat → List MemPlace), cs = [.slice (some a) len cap] ∧ base ≤ a.block ∧ len ≤ cap ∧ cap ≤ maxLen ∧ m = (if spare a.block then cap else len) ∧
      x = (.slice ((List.range len).map D) ((List.range (m - len)).map fun j => D (len + j)), MemPlace.row a (m * fs.size) ++ (List.range m).flatMap Pl) ∧
      ∀ i, i < m → ∃ (ys : List (DataW H × List MemPlace)) (n : Nat), D i = .agg (ys.map (·.1)) ∧ Pl i = ys.flatMap (·.2) ∧ ys.length = fs.size ∧
        ∀ (j : Nat) (f : Field), fs[j]? = some f → ∃ (v : Value) (y : DataW H × List MemPlace), w.cell? (a.add (i * fs.size + j)) = some v ∧ ys[j]? = some y ∧ DataW.trod enc P w base spare held n f.type [v] = some y := by
  rcases open_slice ht h with h0 | ⟨a, len, cap, m, n, D, Pl, hcs, hb, hl, hm, hmm, hx, hi⟩
  · exact .inl h0
  · refine .inr ⟨a, len, cap, m, D, Pl, hcs, hb, hl, hm, hmm, by rw [hC] at hx; exact hx, fun i him => ?_⟩
    obtain ⟨cs', hc, ht'⟩ := hi i him
    rw [hC] at hc
    obtain ⟨ys, n', hn', hy, hlen, hyl, hf⟩ := DataW.trod_struct he ht'
    obtain ⟨_, hcl, hat⟩ := World.cells?_some hc
    simp only [Prod.mk.injEq] at hy
    refine ⟨ys, n', hy.1, hy.2, hyl, fun j f hj => ?_⟩
    obtain ⟨ho, hk⟩ := hone_of hone j f hj
    have hjl : j < fs.size := (Array.getElem?_eq_some_iff.1 hj).1
    have hcell := hat j hjl
    have hv : cs'[j]? = some (cs'[j]'(by omega)) := List.getElem?_eq_getElem (by omega)
    have h1 := hf j f hj
    rw [ho, hk] at h1
    have hone' : (cs'.drop j).take 1 = [cs'[j]'(by omega)] := by
      rw [List.drop_eq_getElem_cons (by omega)]
      rfl
    rw [hone'] at h1
    have hys : ys[j]? = some (ys[j]'(by omega)) := List.getElem?_eq_getElem (by omega)
    refine ⟨_, _, ?_, hys, h1.trans hys⟩
    rw [← Go.Deep.add_add, hcell, hv]
theorem flatMap_at {T : Type} (row : T → List Value) {S : Nat} (hS : 0 < S) (hrow : ∀ t, (row t).length = S) : ∀ (ts : List T) (q : Nat) (u : Value), (ts.flatMap row)[q]? = some u → ∃ t, ts[q / S]? = some t ∧ (row t)[q % S]? = some u := by
  intro ts
  induction ts with
  | nil => intro q u h; simp at h
  | cons t r ih =>
    intro q u h
    rw [List.flatMap_cons] at h
    by_cases hq : q < S
    · rw [List.getElem?_append_left (by rw [hrow]; exact hq)] at h
      rw [Nat.div_eq_of_lt hq, Nat.mod_eq_of_lt hq]
      exact ⟨t, rfl, h⟩
    · rw [List.getElem?_append_right (by rw [hrow]; omega), hrow] at h
      obtain ⟨t', h1, h2⟩ := ih _ _ h
      have e1 : q / S = (q - S) / S + 1 := by
        rw [Nat.div_eq_sub_div hS (by omega)]
      have e2 : q % S = (q - S) % S := (Nat.mod_eq_sub_mod (by omega))
      rw [e1, e2]
      exact ⟨t', by simpa using h1, h2⟩
/-- a slice of structs, opened: 'row' writes an element's cells, 'dec' reads them -/
theorem open_slice_rows {T : Type} [Inhabited T] (row : T → List Value) (Q : T → Prop) {r : Reach} {b0 : Nat} {t e : TypeId} {fs : Array Field} {v : Value} {d : DataW H} {p : List MemPlace}
    (ht : P.underlying t = some (.slice e)) (he : P.underlying e = some (.struct fs)) (hone : oneCellFields P fs = true) (hC : P.cellsOf e = fs.size) (hS : 0 < fs.size) (hrow : ∀ t, (row t).length = fs.size)
    (dec : ∀ vs : List Value, vs.length = fs.size → (∀ (j : Nat) (f : Field), fs[j]? = some f → ∃ (v : Value) (y : DataW H × List MemPlace) (n : Nat), vs[j]? = some v ∧ DataW.trod enc P w base spare held n f.type [v] = some y) → ∃ t, vs = row t ∧ Q t)
    (hv : Value.okWide P w r b0 t v) (h : DataW.Trod enc P w base spare held t v d p) :
    ∃ (A : Option Addr) (n c : Nat) (ts : List T), v = .slice A n c ∧ Reads w w.heap.size fs.size A n (ts.flatMap row) ∧ (∀ t ∈ ts, Q t) ∧ ts.length = n ∧ n ≤ 9223372036854775807 ∧ n ≤ c := by
  obtain ⟨a0, len, cap, rfl⟩ := okWide_slice ht hv
  obtain ⟨fuel, hf⟩ := h
  rcases open_slice_fields ht he hone hC hf with ⟨hcs, _⟩ | ⟨a, len', cap', m, D, Pl, hcs, _, hl, hm, hmm, _, hi⟩
  · simp [Value.cells] at hcs
    obtain ⟨rfl, rfl, rfl⟩ := hcs
    exact ⟨none, 0, 0, [], rfl, Reads.none_, by simp, rfl, by omega, by omega⟩
  · simp [Value.cells] at hcs
    obtain ⟨rfl, rfl, rfl⟩ := hcs
    unfold maxLen at hm
    have hlm : len ≤ m := by rw [hmm]; split <;> omega
    have ex : ∀ i, i < len → ∃ t, Q t ∧ ∀ j u, (row t)[j]? = some u → w.cell? (a.add (i * fs.size + j)) = some u := by
      intro i hil
      obtain ⟨ys, n, _, _, hyl, hfld⟩ := hi i (by omega)
      have hcell : ∀ j, j < fs.size → ∃ v, w.cell? (a.add (i * fs.size + j)) = some v := fun j hj => by
        obtain ⟨v, y, h1, _, _⟩ := hfld j (fs[j]'hj) (Array.getElem?_eq_getElem hj)
        exact ⟨v, h1⟩
      obtain ⟨t, ht1, ht2⟩ := dec ((List.range fs.size).map fun j => (w.cell? (a.add (i * fs.size + j))).getD undef) (by simp) (by
        intro j f hj
        have hjl : j < fs.size := (Array.getElem?_eq_some_iff.1 hj).1
        obtain ⟨v, y, h1, _, h3⟩ := hfld j f hj
        exact ⟨v, y, n, by simp [hjl, h1], h3⟩)
      refine ⟨t, ht2, fun j u hu => ?_⟩
      rw [← ht1, List.getElem?_map] at hu
      have hjl : j < fs.size := by
        rcases Nat.lt_or_ge j fs.size with h | h
        · exact h
        · rw [List.getElem?_eq_none (by simpa using h)] at hu; cases hu
      rw [List.getElem?_range hjl] at hu
      simp only [Option.map_some] at hu
      obtain ⟨v, hv⟩ := hcell j hjl
      rw [hv]
      rw [hv] at hu
      simpa using hu
    obtain ⟨f, hfx⟩ : ∃ f : Nat → T, ∀ i, i < len → Q (f i) ∧ ∀ j u, (row (f i))[j]? = some u → w.cell? (a.add (i * fs.size + j)) = some u := by
      refine ⟨fun i => if h : i < len then Classical.choose (ex i h) else default, fun i hil => ?_⟩
      simp only [dif_pos hil]
      exact Classical.choose_spec (ex i hil)
    refine ⟨some a, len, cap, (List.range len).map f, rfl, ⟨?_, fun hn => ⟨a, rfl, ?_, fun q u hq => ?_⟩⟩, ?_, by simp, by omega, hl⟩
    · have : ∀ l : List Nat, ((l.map f).flatMap row).length = l.length * fs.size := by
        intro l
        induction l with
        | nil => simp
        | cons x r ih => simp only [List.map_cons, List.flatMap_cons, List.length_append, List.length_cons, ih, hrow]; rw [Nat.add_mul]; omega
      rw [this]; simp
    · have h0 := (hfx 0 hn).2 0 ((row (f 0))[0]'(by rw [hrow]; exact hS)) (List.getElem?_eq_getElem _)
      have := block_lt h0
      rwa [block_of_add] at this
    · obtain ⟨t, h1, h2⟩ := flatMap_at row hS hrow _ _ _ hq
      rw [List.getElem?_map] at h1
      have hd : q / fs.size < len := by
        rcases Nat.lt_or_ge (q / fs.size) len with h | h
        · exact h
        · rw [List.getElem?_eq_none (by simpa using h)] at h1; cases h1
      rw [List.getElem?_range hd] at h1
      obtain rfl : f (q / fs.size) = t := by simpa using h1
      have := (hfx _ hd).2 _ _ h2
      rwa [Nat.mul_comm, Nat.div_add_mod] at this
    · intro t ht
      obtain ⟨i, hi1, rfl⟩ := List.mem_map.1 ht
      exact (hfx i (List.mem_range.1 hi1)).1
end
end Go.Proofs.YtcmmppkmkejniaaGreatDoor
namespace Go.Proofs.YtcmmppkmkejniaaGreatDoor
open Go.RowKit
set_option linter.unusedVariables false
theorem flat_at {T : Type} [Inhabited T] (row : T → List Value) {S : Nat} (hrow : ∀ t, (row t).length = S) : ∀ {ts : List T} {k j : Nat}, k < ts.length → j < S → (ts.flatMap row)[k * S + j]? = (row (ts.getD k default))[j]? := by
  intro ts
  induction ts with
  | nil => intro k j h; simp at h
  | cons t r ih =>
    intro k j h hj
    rw [List.flatMap_cons]
    cases k with
    | zero =>
      rw [List.getElem?_append_left (by rw [hrow]; omega)]
      simp
    | succ k =>
      have e : (k + 1) * S + j - (row t).length = k * S + j := by rw [hrow, Nat.add_mul]; omega
      rw [List.getElem?_append_right (by rw [hrow, Nat.add_mul]; omega), e]
      have := ih (k := k) (j := j) (by simpa using h) hj
      simpa using this
theorem flat_len {T : Type} (row : T → List Value) {S : Nat} (hrow : ∀ t, (row t).length = S) (ts : List T) : (ts.flatMap row).length = ts.length * S := by
  induction ts with
  | nil => simp
  | cons t r ih => rw [List.flatMap_cons, List.length_append, ih, hrow, List.length_cons, Nat.add_mul]; omega
theorem rowCells_len (r : SRow) : (rowCells r).length = 5 := rfl
theorem rows_len {w : World} {B n : Nat} {A : Option Addr} {rs : List SRow} (h : Reads w B 5 A n (rowsCells rs)) : rs.length = n := by
  have := h.1
  unfold rowsCells at this
  rw [flat_len rowCells rowCells_len] at this
  omega
theorem rowsCells_snoc (rs : List SRow) (r : SRow) : rowsCells (rs ++ [r]) = rowsCells rs ++ rowCells r := by simp [rowsCells]
theorem add_pos (a : Addr) (n : Nat) (h : n ≠ 0) : a.add n = ⟨a.block, a.off + n, none⟩ := by unfold Addr.add; rw [if_neg h]
theorem Reads.low {w w' : World} {B size n : Nat} {A : Option Addr} {xs : List Value} (h : Reads w B size A n xs) (hB : B ≤ w.heap.size) {C : Nat} (hC : w.heap.size ≤ C) (hb : Below C w w') : Reads w' B size A n xs :=
  h.keep fun _ hp => hb.cell (by omega)
theorem Reads.row_at {w : World} {B n k : Nat} {A : Option Addr} {rs : List SRow} (h : Reads w B 5 A n (rowsCells rs)) (hk : k < n) :
    ∃ ad, A = some ad ∧ ad.block < B ∧ w.cell? (ad.add (k * 5)) = some (.string ⟨(rs.getD k default).name.toArray⟩) ∧ w.cell? ⟨(ad.add (k * 5)).block, (ad.add (k * 5)).off + 1, none⟩ = some (.int .i64 (rs.getD k default).level) ∧
      w.cell? ⟨(ad.add (k * 5)).block, (ad.add (k * 5)).off + 2, none⟩ = some (.int .i64 (rs.getD k default).from_) ∧ w.cell? ⟨(ad.add (k * 5)).block, (ad.add (k * 5)).off + 3, none⟩ = some (.int .i64 (rs.getD k default).to_) ∧
      w.cell? ⟨(ad.add (k * 5)).block, (ad.add (k * 5)).off + 4, none⟩ = some (.bool (rs.getD k default).neg) := by
  have hl := rows_len h
  obtain ⟨ad, rfl, hb, hc⟩ := h.2 (by omega)
  have hx : ∀ j, j < 5 → ∀ u, (rowCells (rs.getD k default))[j]? = some u → w.cell? (ad.add (k * 5 + j)) = some u := by
    intro j hj u hu
    refine hc _ _ ?_
    unfold rowsCells
    rw [flat_at rowCells rowCells_len (by omega) hj, hu]
  have g0 := hx 0 (by omega) _ rfl
  have g1 := hx 1 (by omega) _ rfl
  have g2 := hx 2 (by omega) _ rfl
  have g3 := hx 3 (by omega) _ rfl
  have g4 := hx 4 (by omega) _ rfl
  rw [← add_of_add, add_pos _ 1 (by omega)] at g1
  rw [← add_of_add, add_pos _ 2 (by omega)] at g2
  rw [← add_of_add, add_pos _ 3 (by omega)] at g3
  rw [← add_of_add, add_pos _ 4 (by omega)] at g4
  exact ⟨ad, rfl, hb, g0, g1, g2, g3, g4⟩
def rowArr (r : SRow) : Array Value := #[.string ⟨r.name.toArray⟩, .int .i64 r.level, .int .i64 r.from_, .int .i64 r.to_, .bool r.neg]
theorem row_cells {w : World} {g : Nat} {T : TypeId} {nm : List UInt8} {lv fr to_ : Int} {ng : Bool} (h : Blk w g T #[.string ⟨nm.toArray⟩, .int .i64 lv, .int .i64 fr, .int .i64 to_, .bool ng]) :
    w.cell? ⟨g, 0, none⟩ = some (.string ⟨nm.toArray⟩) ∧ w.cell? ⟨g, 1, none⟩ = some (.int .i64 lv) ∧ w.cell? ⟨g, 2, none⟩ = some (.int .i64 fr) ∧ w.cell? ⟨g, 3, none⟩ = some (.int .i64 to_) ∧ w.cell? ⟨g, 4, none⟩ = some (.bool ng) :=
  ⟨h.cell 0, h.cell 1, h.cell 2, h.cell 3, h.cell 4⟩
theorem okRow_iff {b : Int} {r : SRow} : okRow b r = true ↔ nameOk r.name = true ∧ (0 ≤ r.level ∧ r.level ≤ 9 ∧ r.level ≤ b + 1) ∧ (r.to_ < r.from_ → r.from_ = 1 ∧ r.to_ = 0 ∧ r.neg = false) ∧ (r.from_ ≤ r.to_ → 0 ≤ r.from_ ∧ r.to_ ≤ 99999) := by
  unfold okRow rowIn isTitle
  by_cases h : r.to_ < r.from_
  · simp only [Bool.and_eq_true, decide_eq_true_eq, h, if_true, decide_true, Bool.not_eq_true', and_assoc, true_implies]
    constructor
    · rintro ⟨a, b, c, d, e, f, g⟩; exact ⟨a, b, c, d, e, f, g, fun x => by omega⟩
    · rintro ⟨a, b, c, d, e, f, g, _⟩; exact ⟨a, b, c, d, e, f, g⟩
  · simp only [Bool.and_eq_true, decide_eq_true_eq, h, decide_false, and_assoc, false_implies, true_and, show r.from_ ≤ r.to_ by omega, true_implies]
    simp
theorem okRow_no {b : Int} {r : SRow} (h : ¬ (nameOk r.name = true ∧ (0 ≤ r.level ∧ r.level ≤ 9 ∧ r.level ≤ b + 1) ∧ (r.to_ < r.from_ → r.from_ = 1 ∧ r.to_ = 0 ∧ r.neg = false) ∧ (r.from_ ≤ r.to_ → 0 ≤ r.from_ ∧ r.to_ ≤ 99999))) : okRow b r = false := by
  cases e : okRow b r
  · rfl
  · exact absurd (okRow_iff.1 e) h
theorem name_le {l : List UInt8} (h : nameOk l = true) : l.length ≤ 16 := by
  unfold nameOk at h
  simp only [Bool.and_eq_true, decide_eq_true_eq] at h
  exact h.1.2.2
set_option maxRecDepth 100000 in
set_option maxHeartbeats 8000000 in
theorem proper_any (rs : List SRow) (A : Option Addr) (n c : Nat) (r : SRow) (B : Nat) (w : World) (hr : Reads w B 5 A n (rowsCells rs)) (hB : B ≤ w.heap.size) (hn63 : n ≤ 9223372036854775807) (hlv : 0 < n → 0 ≤ lvl rs n ∧ lvl rs n ≤ 9) (hnl : r.name.length ≤ 140737488351232) :
    Calls Tryz.prog 26 #[.slice A n c, rowV r] w fun e w' => e = .returned (.bool (okRow (lvl rs n) r)) ∧ Below w.heap.size w w' := by
  obtain ⟨nm, lv, fr, to_, ng⟩ := r
  unfold rowV
  simp only [] at hnl ⊢
  have HR := Lib.hid hr
  clear hr
  generalize hgo : okRow (lvl rs n) ⟨nm, lv, fr, to_, ng⟩ = ok
  have HG := Lib.hid hgo.symm
  clear hgo
  by_cases hn0 : n = 0
  · skip
    have hb0 := (Below.refl w.heap.size w).alloc (Nat.le_refl _) (.cells #[.string ⟨nm.toArray⟩, .int .i64 lv, .int .i64 fr, .int .i64 to_, .bool ng] 39)
    have HB0 := Lib.hid hb0
    have HBLK := Lib.hid (Blk.new w 39 #[.string ⟨nm.toArray⟩, .int .i64 lv, .int .i64 fr, .int .i64 to_, .bool ng])
    clear hb0
    obtain rfl : n = 0 := hn0
    have hp : lvl rs 0 = -1 := rfl
    rw [hp] at HG
    clear hp hlv HR
    cases hnm : nameOk nm
    · skip
      have F := Lib.hid (okRow_no (b := -1) (r := ⟨nm, lv, fr, to_, ng⟩) (by simp only []; rintro ⟨a, _⟩; rw [hnm] at a; cases a))
      have HNM := Lib.hid hnm
      clear hnm
      go_enter Tryz.func26, Tryz.ntmps26
      go_wp2_with fail
      refine (named_any nm _ hnl).mono ?_
      rintro e w1 ⟨rfl, hb⟩
      obtain ⟨c0, c1, c2, c3, c4⟩ := row_cells (HBLK.out.below hb (by simp))
      rw [HNM.out]
      go_wp2_with fail
      go_ret
      exact ⟨ret_bool (HG.out.trans F.out).symm, below_two HB0.out hb⟩
    · have HNM := Lib.hid hnm
      clear hnm
      by_cases t2 : lv < 0
      · have d2 : (decide (lv < 0)) = true := by rw [decide_eq_true_eq]; omega
        have F := Lib.hid (okRow_no (b := -1) (r := ⟨nm, lv, fr, to_, ng⟩) (by simp only []; rintro ⟨_, a, b, c⟩; omega))
        go_enter Tryz.func26, Tryz.ntmps26
        go_wp2_with fail
        refine (named_any nm _ hnl).mono ?_
        rintro e w1 ⟨rfl, hb⟩
        obtain ⟨c0, c1, c2, c3, c4⟩ := row_cells (HBLK.out.below hb (by simp))
        rw [HNM.out]
        go_wp2_with fail
        go_ret
        exact ⟨ret_bool (HG.out.trans F.out).symm, below_two HB0.out hb⟩
      have d2 : (decide (lv < 0)) = false := by rw [decide_eq_false_iff_not]; omega
      by_cases t3 : (0 : Int) < lv
      · have d3 : (decide ((0 : Int) < lv)) = true := by rw [decide_eq_true_eq]; omega
        have F := Lib.hid (okRow_no (b := -1) (r := ⟨nm, lv, fr, to_, ng⟩) (by simp only []; rintro ⟨_, a, b, c⟩; omega))
        go_enter Tryz.func26, Tryz.ntmps26
        go_wp2_with fail
        refine (named_any nm _ hnl).mono ?_
        rintro e w1 ⟨rfl, hb⟩
        obtain ⟨c0, c1, c2, c3, c4⟩ := row_cells (HBLK.out.below hb (by simp))
        rw [HNM.out]
        go_wp2_with fail
        go_ret
        exact ⟨ret_bool (HG.out.trans F.out).symm, below_two HB0.out hb⟩
      have d3 : (decide ((0 : Int) < lv)) = false := by rw [decide_eq_false_iff_not]; omega
      by_cases t4 : fr < 0
      · have d4 : (decide (fr < 0)) = true := by rw [decide_eq_true_eq]; omega
        have F := Lib.hid (okRow_no (b := -1) (r := ⟨nm, lv, fr, to_, ng⟩) (by simp only []; rintro ⟨_, a, b, c⟩; omega))
        go_enter Tryz.func26, Tryz.ntmps26
        go_wp2_with fail
        refine (named_any nm _ hnl).mono ?_
        rintro e w1 ⟨rfl, hb⟩
        obtain ⟨c0, c1, c2, c3, c4⟩ := row_cells (HBLK.out.below hb (by simp))
        rw [HNM.out]
        go_wp2_with fail
        go_ret
        exact ⟨ret_bool (HG.out.trans F.out).symm, below_two HB0.out hb⟩
      have d4 : (decide (fr < 0)) = false := by rw [decide_eq_false_iff_not]; omega
      by_cases t5 : 99999 < fr
      · have d5 : (decide (99999 < fr)) = true := by rw [decide_eq_true_eq]; omega
        have F := Lib.hid (okRow_no (b := -1) (r := ⟨nm, lv, fr, to_, ng⟩) (by simp only []; rintro ⟨_, a, b, c⟩; omega))
        go_enter Tryz.func26, Tryz.ntmps26
        go_wp2_with fail
        refine (named_any nm _ hnl).mono ?_
        rintro e w1 ⟨rfl, hb⟩
        obtain ⟨c0, c1, c2, c3, c4⟩ := row_cells (HBLK.out.below hb (by simp))
        rw [HNM.out]
        go_wp2_with fail
        go_ret
        exact ⟨ret_bool (HG.out.trans F.out).symm, below_two HB0.out hb⟩
      have d5 : (decide (99999 < fr)) = false := by rw [decide_eq_false_iff_not]; omega
      by_cases t6 : to_ < 0
      · have d6 : (decide (to_ < 0)) = true := by rw [decide_eq_true_eq]; omega
        have F := Lib.hid (okRow_no (b := -1) (r := ⟨nm, lv, fr, to_, ng⟩) (by simp only []; rintro ⟨_, a, b, c⟩; omega))
        go_enter Tryz.func26, Tryz.ntmps26
        go_wp2_with fail
        refine (named_any nm _ hnl).mono ?_
        rintro e w1 ⟨rfl, hb⟩
        obtain ⟨c0, c1, c2, c3, c4⟩ := row_cells (HBLK.out.below hb (by simp))
        rw [HNM.out]
        go_wp2_with fail
        go_ret
        exact ⟨ret_bool (HG.out.trans F.out).symm, below_two HB0.out hb⟩
      have d6 : (decide (to_ < 0)) = false := by rw [decide_eq_false_iff_not]; omega
      by_cases t7 : 99999 < to_
      · have d7 : (decide (99999 < to_)) = true := by rw [decide_eq_true_eq]; omega
        have F := Lib.hid (okRow_no (b := -1) (r := ⟨nm, lv, fr, to_, ng⟩) (by simp only []; rintro ⟨_, a, b, c⟩; omega))
        go_enter Tryz.func26, Tryz.ntmps26
        go_wp2_with fail
        refine (named_any nm _ hnl).mono ?_
        rintro e w1 ⟨rfl, hb⟩
        obtain ⟨c0, c1, c2, c3, c4⟩ := row_cells (HBLK.out.below hb (by simp))
        rw [HNM.out]
        go_wp2_with fail
        go_ret
        exact ⟨ret_bool (HG.out.trans F.out).symm, below_two HB0.out hb⟩
      have d7 : (decide (99999 < to_)) = false := by rw [decide_eq_false_iff_not]; omega
      by_cases t8 : to_ < fr
      · by_cases t9 : fr = 1
        · have d9 : (fr == 1) = true := by rw [beq_iff_eq]; exact t9
          by_cases t10 : to_ = 0
          · have d10 : (to_ == 0) = true := by rw [beq_iff_eq]; exact t10
            cases ng
            · have F := Lib.hid ((okRow_iff (b := -1) (r := ⟨nm, lv, fr, to_, false⟩)).2 (by simp only []; exact ⟨HNM.out, by omega, fun _ => ⟨t9, t10, trivial⟩, fun _ => by omega⟩))
              have TT : Hid (isTitle ⟨nm, lv, fr, to_, false⟩ = true) := by show _ = _; unfold isTitle; rw [decide_eq_true_eq]; omega
              clear t9 t10
              go_enter Tryz.func26, Tryz.ntmps26
              go_wp2_with fail
              refine (named_any nm _ hnl).mono ?_
              rintro e w1 ⟨rfl, hb⟩
              obtain ⟨c0, c1, c2, c3, c4⟩ := row_cells (HBLK.out.below hb (by simp))
              rw [HNM.out]
              go_wp2_with fail
              refine (title_any ⟨nm, lv, fr, to_, false⟩ _).mono ?_
              rintro e w2 ⟨rfl, hb2⟩
              rw [TT.out]
              have hg2 := (HBLK.out.below hb (by simp)).below hb2 (by have := hb.size; simp at this; omega)
              obtain ⟨e0, e1, e2, e3, e4⟩ := row_cells hg2
              clear hg2 c0 c1 c2 c3 c4
              go_wp2_with fail
              go_ret
              exact ⟨ret_bool (HG.out.trans F.out).symm, below_two (below_two HB0.out hb) hb2⟩
            · have F := Lib.hid (okRow_no (b := -1) (r := ⟨nm, lv, fr, to_, true⟩) (by simp only []; rintro ⟨_, a, b, c⟩; cases (b t8).2.2))
              have TT : Hid (isTitle ⟨nm, lv, fr, to_, true⟩ = true) := by show _ = _; unfold isTitle; rw [decide_eq_true_eq]; omega
              clear t9 t10
              go_enter Tryz.func26, Tryz.ntmps26
              go_wp2_with fail
              refine (named_any nm _ hnl).mono ?_
              rintro e w1 ⟨rfl, hb⟩
              obtain ⟨c0, c1, c2, c3, c4⟩ := row_cells (HBLK.out.below hb (by simp))
              rw [HNM.out]
              go_wp2_with fail
              refine (title_any ⟨nm, lv, fr, to_, true⟩ _).mono ?_
              rintro e w2 ⟨rfl, hb2⟩
              rw [TT.out]
              have hg2 := (HBLK.out.below hb (by simp)).below hb2 (by have := hb.size; simp at this; omega)
              obtain ⟨e0, e1, e2, e3, e4⟩ := row_cells hg2
              clear hg2 c0 c1 c2 c3 c4
              go_wp2_with fail
              go_ret
              exact ⟨ret_bool (HG.out.trans F.out).symm, below_two (below_two HB0.out hb) hb2⟩
          · have d10 : (to_ == 0) = false := by rw [beq_eq_false_iff_ne]; exact t10
            have F := Lib.hid (okRow_no (b := -1) (r := ⟨nm, lv, fr, to_, ng⟩) (by simp only []; rintro ⟨_, a, b, c⟩; omega))
            have TT : Hid (isTitle ⟨nm, lv, fr, to_, ng⟩ = true) := by show _ = _; unfold isTitle; rw [decide_eq_true_eq]; omega
            clear t9 t10
            go_enter Tryz.func26, Tryz.ntmps26
            go_wp2_with fail
            refine (named_any nm _ hnl).mono ?_
            rintro e w1 ⟨rfl, hb⟩
            obtain ⟨c0, c1, c2, c3, c4⟩ := row_cells (HBLK.out.below hb (by simp))
            rw [HNM.out]
            go_wp2_with fail
            refine (title_any ⟨nm, lv, fr, to_, ng⟩ _).mono ?_
            rintro e w2 ⟨rfl, hb2⟩
            rw [TT.out]
            have hg2 := (HBLK.out.below hb (by simp)).below hb2 (by have := hb.size; simp at this; omega)
            obtain ⟨e0, e1, e2, e3, e4⟩ := row_cells hg2
            clear hg2 c0 c1 c2 c3 c4
            go_wp2_with fail
            go_ret
            exact ⟨ret_bool (HG.out.trans F.out).symm, below_two (below_two HB0.out hb) hb2⟩
        · have d9 : (fr == 1) = false := by rw [beq_eq_false_iff_ne]; exact t9
          have F := Lib.hid (okRow_no (b := -1) (r := ⟨nm, lv, fr, to_, ng⟩) (by simp only []; rintro ⟨_, a, b, c⟩; omega))
          have TT : Hid (isTitle ⟨nm, lv, fr, to_, ng⟩ = true) := by show _ = _; unfold isTitle; rw [decide_eq_true_eq]; omega
          go_enter Tryz.func26, Tryz.ntmps26
          go_wp2_with fail
          refine (named_any nm _ hnl).mono ?_
          rintro e w1 ⟨rfl, hb⟩
          obtain ⟨c0, c1, c2, c3, c4⟩ := row_cells (HBLK.out.below hb (by simp))
          rw [HNM.out]
          go_wp2_with fail
          refine (title_any ⟨nm, lv, fr, to_, ng⟩ _).mono ?_
          rintro e w2 ⟨rfl, hb2⟩
          rw [TT.out]
          have hg2 := (HBLK.out.below hb (by simp)).below hb2 (by have := hb.size; simp at this; omega)
          obtain ⟨e0, e1, e2, e3, e4⟩ := row_cells hg2
          clear hg2 c0 c1 c2 c3 c4
          go_wp2_with fail
          go_ret
          exact ⟨ret_bool (HG.out.trans F.out).symm, below_two (below_two HB0.out hb) hb2⟩
      · skip
        have F := Lib.hid ((okRow_iff (b := -1) (r := ⟨nm, lv, fr, to_, ng⟩)).2 (by simp only []; exact ⟨HNM.out, by omega, fun _ => by omega, fun _ => by omega⟩))
        have TT : Hid (isTitle ⟨nm, lv, fr, to_, ng⟩ = false) := by show _ = _; unfold isTitle; rw [decide_eq_false_iff_not]; simp only []; omega
        go_enter Tryz.func26, Tryz.ntmps26
        go_wp2_with fail
        refine (named_any nm _ hnl).mono ?_
        rintro e w1 ⟨rfl, hb⟩
        obtain ⟨c0, c1, c2, c3, c4⟩ := row_cells (HBLK.out.below hb (by simp))
        rw [HNM.out]
        go_wp2_with fail
        refine (title_any ⟨nm, lv, fr, to_, ng⟩ _).mono ?_
        rintro e w2 ⟨rfl, hb2⟩
        rw [TT.out]
        have hg2 := (HBLK.out.below hb (by simp)).below hb2 (by have := hb.size; simp at this; omega)
        obtain ⟨e0, e1, e2, e3, e4⟩ := row_cells hg2
        clear hg2 c0 c1 c2 c3 c4
        go_wp2_with fail
        go_ret
        exact ⟨ret_bool (HG.out.trans F.out).symm, below_two (below_two HB0.out hb) hb2⟩
  · skip
    have hb0 := (Below.refl w.heap.size w).alloc (Nat.le_refl _) (.cells #[.string ⟨nm.toArray⟩, .int .i64 lv, .int .i64 fr, .int .i64 to_, .bool ng] 39)
    have HB0 := Lib.hid hb0
    have HBLK := Lib.hid (Blk.new w 39 #[.string ⟨nm.toArray⟩, .int .i64 lv, .int .i64 fr, .int .i64 to_, .bool ng])
    clear hb0
    obtain ⟨m, rfl⟩ : ∃ m, n = m + 1 := ⟨n - 1, by omega⟩
    obtain ⟨l0, l9⟩ := hlv (by omega)
    obtain ⟨ad, rfl, hab, _, rc1, _, _, _⟩ := HR.out.row_at (k := m) (by omega)
    have hp : lvl rs (m + 1) = (rs.getD m default).level := rfl
    rw [← hp] at rc1
    generalize lvl rs (m + 1) = p at *
    have hpos : decide (0 < m + 1) = true := by rw [decide_eq_true_eq]; omega
    have rw1 : ((w.alloc (.cells #[.string ⟨nm.toArray⟩, .int .i64 lv, .int .i64 fr, .int .i64 to_, .bool ng] 39))).cell? ⟨(ad.add (m * 5)).block, (ad.add (m * 5)).off + 1, none⟩ = some (.int .i64 p) := (World.cell?_alloc_lt w _ _ (by show (ad.add (m * 5)).block < _; rw [block_of_add]; omega)).trans rc1
    clear hp hlv HR rc1 hn0
    cases hnm : nameOk nm
    · skip
      have F := Lib.hid (okRow_no (b := p) (r := ⟨nm, lv, fr, to_, ng⟩) (by simp only []; rintro ⟨a, _⟩; rw [hnm] at a; cases a))
      have HNM := Lib.hid hnm
      clear hnm
      go_enter Tryz.func26, Tryz.ntmps26
      go_wp2_with fail
      refine (named_any nm _ hnl).mono ?_
      rintro e w1 ⟨rfl, hb⟩
      obtain ⟨c0, c1, c2, c3, c4⟩ := row_cells (HBLK.out.below hb (by simp))
      rw [HNM.out]
      go_wp2_with fail
      go_ret
      exact ⟨ret_bool (HG.out.trans F.out).symm, below_two HB0.out hb⟩
    · have HNM := Lib.hid hnm
      clear hnm
      by_cases t2 : lv < 0
      · have d2 : (decide (lv < 0)) = true := by rw [decide_eq_true_eq]; omega
        have F := Lib.hid (okRow_no (b := p) (r := ⟨nm, lv, fr, to_, ng⟩) (by simp only []; rintro ⟨_, a, b, c⟩; omega))
        go_enter Tryz.func26, Tryz.ntmps26
        go_wp2_with fail
        refine (named_any nm _ hnl).mono ?_
        rintro e w1 ⟨rfl, hb⟩
        obtain ⟨c0, c1, c2, c3, c4⟩ := row_cells (HBLK.out.below hb (by simp))
        rw [HNM.out]
        go_wp2_with fail
        go_ret
        exact ⟨ret_bool (HG.out.trans F.out).symm, below_two HB0.out hb⟩
      have d2 : (decide (lv < 0)) = false := by rw [decide_eq_false_iff_not]; omega
      by_cases t3 : min 9 (p + 1) < lv
      · have d3 : (decide (min 9 (p + 1) < lv)) = true := by rw [decide_eq_true_eq]; omega
        have F := Lib.hid (okRow_no (b := p) (r := ⟨nm, lv, fr, to_, ng⟩) (by simp only []; rintro ⟨_, a, b, c⟩; omega))
        go_enter Tryz.func26, Tryz.ntmps26
        go_wp2_with fail
        refine (named_any nm _ hnl).mono ?_
        rintro e w1 ⟨rfl, hb⟩
        obtain ⟨c0, c1, c2, c3, c4⟩ := row_cells (HBLK.out.below hb (by simp))
        rw [HNM.out]
        go_wp2_with fail
        go_ret
        exact ⟨ret_bool (HG.out.trans F.out).symm, below_two HB0.out hb⟩
      have d3 : (decide (min 9 (p + 1) < lv)) = false := by rw [decide_eq_false_iff_not]; omega
      by_cases t4 : fr < 0
      · have d4 : (decide (fr < 0)) = true := by rw [decide_eq_true_eq]; omega
        have F := Lib.hid (okRow_no (b := p) (r := ⟨nm, lv, fr, to_, ng⟩) (by simp only []; rintro ⟨_, a, b, c⟩; omega))
        go_enter Tryz.func26, Tryz.ntmps26
        go_wp2_with fail
        refine (named_any nm _ hnl).mono ?_
        rintro e w1 ⟨rfl, hb⟩
        obtain ⟨c0, c1, c2, c3, c4⟩ := row_cells (HBLK.out.below hb (by simp))
        rw [HNM.out]
        go_wp2_with fail
        go_ret
        exact ⟨ret_bool (HG.out.trans F.out).symm, below_two HB0.out hb⟩
      have d4 : (decide (fr < 0)) = false := by rw [decide_eq_false_iff_not]; omega
      by_cases t5 : 99999 < fr
      · have d5 : (decide (99999 < fr)) = true := by rw [decide_eq_true_eq]; omega
        have F := Lib.hid (okRow_no (b := p) (r := ⟨nm, lv, fr, to_, ng⟩) (by simp only []; rintro ⟨_, a, b, c⟩; omega))
        go_enter Tryz.func26, Tryz.ntmps26
        go_wp2_with fail
        refine (named_any nm _ hnl).mono ?_
        rintro e w1 ⟨rfl, hb⟩
        obtain ⟨c0, c1, c2, c3, c4⟩ := row_cells (HBLK.out.below hb (by simp))
        rw [HNM.out]
        go_wp2_with fail
        go_ret
        exact ⟨ret_bool (HG.out.trans F.out).symm, below_two HB0.out hb⟩
      have d5 : (decide (99999 < fr)) = false := by rw [decide_eq_false_iff_not]; omega
      by_cases t6 : to_ < 0
      · have d6 : (decide (to_ < 0)) = true := by rw [decide_eq_true_eq]; omega
        have F := Lib.hid (okRow_no (b := p) (r := ⟨nm, lv, fr, to_, ng⟩) (by simp only []; rintro ⟨_, a, b, c⟩; omega))
        go_enter Tryz.func26, Tryz.ntmps26
        go_wp2_with fail
        refine (named_any nm _ hnl).mono ?_
        rintro e w1 ⟨rfl, hb⟩
        obtain ⟨c0, c1, c2, c3, c4⟩ := row_cells (HBLK.out.below hb (by simp))
        rw [HNM.out]
        go_wp2_with fail
        go_ret
        exact ⟨ret_bool (HG.out.trans F.out).symm, below_two HB0.out hb⟩
      have d6 : (decide (to_ < 0)) = false := by rw [decide_eq_false_iff_not]; omega
      by_cases t7 : 99999 < to_
      · have d7 : (decide (99999 < to_)) = true := by rw [decide_eq_true_eq]; omega
        have F := Lib.hid (okRow_no (b := p) (r := ⟨nm, lv, fr, to_, ng⟩) (by simp only []; rintro ⟨_, a, b, c⟩; omega))
        go_enter Tryz.func26, Tryz.ntmps26
        go_wp2_with fail
        refine (named_any nm _ hnl).mono ?_
        rintro e w1 ⟨rfl, hb⟩
        obtain ⟨c0, c1, c2, c3, c4⟩ := row_cells (HBLK.out.below hb (by simp))
        rw [HNM.out]
        go_wp2_with fail
        go_ret
        exact ⟨ret_bool (HG.out.trans F.out).symm, below_two HB0.out hb⟩
      have d7 : (decide (99999 < to_)) = false := by rw [decide_eq_false_iff_not]; omega
      by_cases t8 : to_ < fr
      · by_cases t9 : fr = 1
        · have d9 : (fr == 1) = true := by rw [beq_iff_eq]; exact t9
          by_cases t10 : to_ = 0
          · have d10 : (to_ == 0) = true := by rw [beq_iff_eq]; exact t10
            cases ng
            · have F := Lib.hid ((okRow_iff (b := p) (r := ⟨nm, lv, fr, to_, false⟩)).2 (by simp only []; exact ⟨HNM.out, by omega, fun _ => ⟨t9, t10, trivial⟩, fun _ => by omega⟩))
              have TT : Hid (isTitle ⟨nm, lv, fr, to_, false⟩ = true) := by show _ = _; unfold isTitle; rw [decide_eq_true_eq]; omega
              clear t9 t10
              go_enter Tryz.func26, Tryz.ntmps26
              go_wp2_with fail
              refine (named_any nm _ hnl).mono ?_
              rintro e w1 ⟨rfl, hb⟩
              obtain ⟨c0, c1, c2, c3, c4⟩ := row_cells (HBLK.out.below hb (by simp))
              rw [HNM.out]
              go_wp2_with fail
              refine (title_any ⟨nm, lv, fr, to_, false⟩ _).mono ?_
              rintro e w2 ⟨rfl, hb2⟩
              rw [TT.out]
              have hg2 := (HBLK.out.below hb (by simp)).below hb2 (by have := hb.size; simp at this; omega)
              obtain ⟨e0, e1, e2, e3, e4⟩ := row_cells hg2
              clear hg2 c0 c1 c2 c3 c4
              go_wp2_with fail
              go_ret
              exact ⟨ret_bool (HG.out.trans F.out).symm, below_two (below_two HB0.out hb) hb2⟩
            · have F := Lib.hid (okRow_no (b := p) (r := ⟨nm, lv, fr, to_, true⟩) (by simp only []; rintro ⟨_, a, b, c⟩; cases (b t8).2.2))
              have TT : Hid (isTitle ⟨nm, lv, fr, to_, true⟩ = true) := by show _ = _; unfold isTitle; rw [decide_eq_true_eq]; omega
              clear t9 t10
              go_enter Tryz.func26, Tryz.ntmps26
              go_wp2_with fail
              refine (named_any nm _ hnl).mono ?_
              rintro e w1 ⟨rfl, hb⟩
              obtain ⟨c0, c1, c2, c3, c4⟩ := row_cells (HBLK.out.below hb (by simp))
              rw [HNM.out]
              go_wp2_with fail
              refine (title_any ⟨nm, lv, fr, to_, true⟩ _).mono ?_
              rintro e w2 ⟨rfl, hb2⟩
              rw [TT.out]
              have hg2 := (HBLK.out.below hb (by simp)).below hb2 (by have := hb.size; simp at this; omega)
              obtain ⟨e0, e1, e2, e3, e4⟩ := row_cells hg2
              clear hg2 c0 c1 c2 c3 c4
              go_wp2_with fail
              go_ret
              exact ⟨ret_bool (HG.out.trans F.out).symm, below_two (below_two HB0.out hb) hb2⟩
          · have d10 : (to_ == 0) = false := by rw [beq_eq_false_iff_ne]; exact t10
            have F := Lib.hid (okRow_no (b := p) (r := ⟨nm, lv, fr, to_, ng⟩) (by simp only []; rintro ⟨_, a, b, c⟩; omega))
            have TT : Hid (isTitle ⟨nm, lv, fr, to_, ng⟩ = true) := by show _ = _; unfold isTitle; rw [decide_eq_true_eq]; omega
            clear t9 t10
            go_enter Tryz.func26, Tryz.ntmps26
            go_wp2_with fail
            refine (named_any nm _ hnl).mono ?_
            rintro e w1 ⟨rfl, hb⟩
            obtain ⟨c0, c1, c2, c3, c4⟩ := row_cells (HBLK.out.below hb (by simp))
            rw [HNM.out]
            go_wp2_with fail
            refine (title_any ⟨nm, lv, fr, to_, ng⟩ _).mono ?_
            rintro e w2 ⟨rfl, hb2⟩
            rw [TT.out]
            have hg2 := (HBLK.out.below hb (by simp)).below hb2 (by have := hb.size; simp at this; omega)
            obtain ⟨e0, e1, e2, e3, e4⟩ := row_cells hg2
            clear hg2 c0 c1 c2 c3 c4
            go_wp2_with fail
            go_ret
            exact ⟨ret_bool (HG.out.trans F.out).symm, below_two (below_two HB0.out hb) hb2⟩
        · have d9 : (fr == 1) = false := by rw [beq_eq_false_iff_ne]; exact t9
          have F := Lib.hid (okRow_no (b := p) (r := ⟨nm, lv, fr, to_, ng⟩) (by simp only []; rintro ⟨_, a, b, c⟩; omega))
          have TT : Hid (isTitle ⟨nm, lv, fr, to_, ng⟩ = true) := by show _ = _; unfold isTitle; rw [decide_eq_true_eq]; omega
          go_enter Tryz.func26, Tryz.ntmps26
          go_wp2_with fail
          refine (named_any nm _ hnl).mono ?_
          rintro e w1 ⟨rfl, hb⟩
          obtain ⟨c0, c1, c2, c3, c4⟩ := row_cells (HBLK.out.below hb (by simp))
          rw [HNM.out]
          go_wp2_with fail
          refine (title_any ⟨nm, lv, fr, to_, ng⟩ _).mono ?_
          rintro e w2 ⟨rfl, hb2⟩
          rw [TT.out]
          have hg2 := (HBLK.out.below hb (by simp)).below hb2 (by have := hb.size; simp at this; omega)
          obtain ⟨e0, e1, e2, e3, e4⟩ := row_cells hg2
          clear hg2 c0 c1 c2 c3 c4
          go_wp2_with fail
          go_ret
          exact ⟨ret_bool (HG.out.trans F.out).symm, below_two (below_two HB0.out hb) hb2⟩
      · skip
        have F := Lib.hid ((okRow_iff (b := p) (r := ⟨nm, lv, fr, to_, ng⟩)).2 (by simp only []; exact ⟨HNM.out, by omega, fun _ => by omega, fun _ => by omega⟩))
        have TT : Hid (isTitle ⟨nm, lv, fr, to_, ng⟩ = false) := by show _ = _; unfold isTitle; rw [decide_eq_false_iff_not]; simp only []; omega
        go_enter Tryz.func26, Tryz.ntmps26
        go_wp2_with fail
        refine (named_any nm _ hnl).mono ?_
        rintro e w1 ⟨rfl, hb⟩
        obtain ⟨c0, c1, c2, c3, c4⟩ := row_cells (HBLK.out.below hb (by simp))
        rw [HNM.out]
        go_wp2_with fail
        refine (title_any ⟨nm, lv, fr, to_, ng⟩ _).mono ?_
        rintro e w2 ⟨rfl, hb2⟩
        rw [TT.out]
        have hg2 := (HBLK.out.below hb (by simp)).below hb2 (by have := hb.size; simp at this; omega)
        obtain ⟨e0, e1, e2, e3, e4⟩ := row_cells hg2
        clear hg2 c0 c1 c2 c3 c4
        go_wp2_with fail
        go_ret
        exact ⟨ret_bool (HG.out.trans F.out).symm, below_two (below_two HB0.out hb) hb2⟩
end Go.Proofs.YtcmmppkmkejniaaGreatDoor
namespace Go.Proofs.YtcmmppkmkejniaaGreatDoor
open Go.RowKit Go.ChangeShapes
set_option linter.unusedVariables false
theorem wpList_append_want {P : Program} (w : World) {ops : Array Oper} {rest : List Oper} {o : Oper} {a : Act} {Q : Exit → Act → World → Prop} (hw : Region.wanted o (yielded ops a.tmps) = true) (s x : Operand) (t : TypeId)
    (ho : o.op = .call { callee := .builtin .append, args := #[s, x], argTypes := #[t, t] })
    (base : Nat) (e : TypeId) (i : TypeInfo) (z : Value) (size bytes : Nat) (ht : P.underlying t = some (.slice e)) (hi : P.info? e = some i) (hz : i.zero = some z)
    (hsize : i.size = size) (hby : i.bytes = bytes) (hzs : z.cells.size = size) (hsz : 0 < size)
    (v : Value) (n : Nat) (xs : List Value) (hs : a.eval s = v) (hown : w.ownsRow base e size v n xs)
    (B : Nat) (A : Option Addr) (m c : Nat) (news : List Value) (hx : a.eval x = .slice A m c) (hr : Reads w B size A m news) (h1 : ∀ u ∈ news, u.oneCell' = true)
    (h63 : n + m ≤ maxLen) (hbytes : (n + m) * bytes ≤ 140737488355328) (hbase : base ≤ w.heap.size)
    (h : ∀ v' w', w'.ownsRow base e size v' (n + m) (xs ++ news) → w.grownBy w' v.ownBlock → (v'.ownBlock = v.ownBlock ∨ v'.ownBlock = some w.heap.size) → wpList P ops Q rest (a.put o.dst v') w') : wpList P ops Q (o :: rest) a w :=
  BigFrame.wpList_want hw fun _ hK => wp_append_any w s x t ho base e i z size bytes ht hi hz hsize hby hzs hsz v n xs hs hown B A m c news hx hr h1 h63 hbytes hbase fun v' w' h2 h3 h4 => hK _ _ (h v' w' h2 h3 h4)
end Go.Proofs.YtcmmppkmkejniaaGreatDoor
namespace Go.Proofs.YtcmmppkmkejniaaGreatDoor
open Go.RowKit
set_option linter.unusedVariables false
theorem rowsCells_take (rs : List SRow) (k : Nat) : rowsCells (rs.take k) = (rowsCells rs).take (k * 5) := by
  unfold rowsCells
  induction rs generalizing k with
  | nil => simp
  | cons r rs ih =>
    cases k with
    | zero => simp
    | succ k =>
      rw [List.take_succ_cons, List.flatMap_cons, List.flatMap_cons, ih, List.take_append]
      have e : (rowCells r).length = 5 := rfl
      rw [List.take_of_length_le (show (rowCells r).length ≤ (k + 1) * 5 by rw [e]; omega), e]
      congr 2
      omega
theorem Reads.rows_take {w : World} {B n k : Nat} {A : Option Addr} {rs : List SRow} (h : Reads w B 5 A n (rowsCells rs)) (hk : k ≤ n) : Reads w B 5 A k (rowsCells (rs.take k)) := by
  have hl := rows_len h
  refine ⟨?_, fun h0 => ?_⟩
  · unfold rowsCells; rw [flat_len rowCells rowCells_len, List.length_take]; omega
  · obtain ⟨ad, e, hb, hc⟩ := h.2 (by omega)
    refine ⟨ad, e, hb, fun j u hu => hc j u ?_⟩
    rw [rowsCells_take, List.getElem?_take] at hu
    split at hu
    · exact hu
    · cases hu
theorem lvl_bd {rs : List SRow} {k : Nat} (hk : k ≤ rs.length) (h : validF (-1) (rs.take k) = true) : (0 < k → 0 ≤ lvl rs k ∧ lvl rs k ≤ 9) ∧ -1 ≤ lvl rs k ∧ lvl rs k ≤ 9 := by
  cases k with
  | zero => exact ⟨fun h => by omega, by simp [lvl], by simp [lvl]⟩
  | succ m =>
    have := validF_level h (k := m) (by rw [List.length_take]; omega)
    rw [take_getD _ (by omega)] at this
    exact ⟨fun _ => this, by simp only [lvl]; omega, by simp only [lvl]; omega⟩
theorem validR_no {rs : List SRow} {k : Nat} (hk : k < rs.length) (h' : okRow (lvl rs k) (rs.getD k default) = false) : validR rs = false := by
  unfold validR; rw [validF_no hk h']; rfl
theorem validR_end {rs : List SRow} {k n : Nat} (hk : rs.length ≤ k) (hn : rs.length = n) (h : validF (-1) (rs.take k) = true) : validR rs = decide (n ≤ 300) := by
  rw [List.take_of_length_le hk] at h
  unfold validR; rw [h, hn]; rfl
theorem getD_mem' {rs : List SRow} {k : Nat} (h : k < rs.length) : rs.getD k default ∈ rs := by
  have : rs.getD k default = rs[k] := by simp [List.getD, h]
  rw [this]; exact List.getElem_mem h
theorem nat_le_300 (n : Nat) : decide ((n : Int) ≤ 300) = decide (n ≤ 300) := by
  by_cases h : n ≤ 300
  · rw [decide_eq_true h, decide_eq_true (show (n : Int) ≤ 300 by omega)]
  · rw [decide_eq_false h, decide_eq_false (show ¬ (n : Int) ≤ 300 by omega)]
theorem Reads.of_heap {w w' : World} {B size n : Nat} {A : Option Addr} {xs : List Value} (h : Reads w B size A n xs) (hh : w'.heap = w.heap) : Reads w' B size A n xs :=
  h.keep fun p _ => World.cell?_of_block (by rw [hh])
set_option maxRecDepth 100000 in
set_option maxHeartbeats 4000000 in
theorem valid_any (rs : List SRow) (A : Option Addr) (n c : Nat) (B : Nat) (w : World) (hr : Reads w B 5 A n (rowsCells rs)) (hB : B ≤ w.heap.size) (hn63 : n ≤ 9223372036854775807) (hnc : n ≤ c) (hnm : ∀ r ∈ rs, r.name.length ≤ 3000) :
    Calls Tryz.prog 14 #[.slice A n c] w fun e w' => e = .returned (.bool (validR rs)) ∧ Below w.heap.size w w' := by
  have HL := Lib.hid (rows_len hr)
  have HR := Lib.hid hr
  have HNM := Lib.hid hnm
  have hnci : (n : Int) ≤ (c : Int) := by omega
  clear hr hnm
  go_enter Tryz.func14, Tryz.ntmps14
  go_wp2_with fail
  go_loopw [7] (fun i wr => ∃ k : Nat, k ≤ n ∧ i = .int .i64 k ∧ validF (-1) (rs.take k) = true ∧ Below w.heap.size w wr) (fun i _ => n - (intOf i).toNat)
  case atStart => exact ⟨0, Nat.zero_le _, rfl, rfl, Below.refl _ _⟩
  case round =>
    obtain ⟨k, hk, rfl, hv, hbr⟩ := hrel
    obtain ⟨wo, rfl⟩ : ∃ wo : World, wo = wr := ⟨_, rfl⟩
    have HV := Lib.hid hv
    clear hv
    by_cases hlt : k < n
    · have hrw := HR.out.low hB (Nat.le_refl _) hbr
      obtain ⟨ad, rfl, hab, c0, c1, c2, c3, c4⟩ := hrw.row_at hlt
      have HRK := Lib.hid (hrw.rows_take hk)
      have hlv := lvl_bd (show k ≤ rs.length by rw [HL.out]; exact hk) HV.out
      have hok : Hid (okRow (lvl rs k) (rs.getD k default) = false → validR rs = false) := by
        show _ → _
        exact validR_no (by rw [HL.out]; exact hlt)
      have hstep : Hid (okRow (lvl rs k) (rs.getD k default) = true → validF (-1) (rs.take (k + 1)) = true) := by
        show _ → _
        exact validF_step (by rw [HL.out]; exact hlt) HV.out
      have hnk : Hid ((rs.getD k default).name.length ≤ 140737488351232) := by
        show _ ≤ _
        have := HNM.out _ (getD_mem' (show k < rs.length by rw [HL.out]; exact hlt))
        omega
      have hlt' : Hid (lvl (rs.take k) k = lvl rs k) := lvl_take (Nat.le_refl _)
      have HLV := Lib.hid hlv
      clear hlv hrw
      generalize rs.getD k default = r at *
      obtain ⟨nm, lv, fr, to_, ng⟩ := r
      have k1 : (k : Int) ≤ (n : Int) := by omega
      have k2 : (k : Int) ≤ (c : Int) := by omega
      have k3 : decide ((k : Int) < (n : Int)) = true := by rw [decide_eq_true_eq]; omega
      have hbo := hbr.alloc hbr.size (.cells #[.string ⟨nm.toArray⟩, .int .i64 lv, .int .i64 fr, .int .i64 to_, .bool ng] 39)
      have HBO := Lib.hid hbo
      clear hbo
      go_wp2_with fail
      have hcz := row_cells (Blk.new wo 39 #[.string ⟨nm.toArray⟩, .int .i64 lv, .int .i64 fr, .int .i64 to_, .bool ng])
      have HRZ := Lib.hid (HRK.out.alloc (show B ≤ wo.heap.size by have := hbr.size; omega) (.cells #[.string ⟨nm.toArray⟩, .int .i64 lv, .int .i64 fr, .int .i64 to_, .bool ng] 39))
      have hsz : wo.heap.size < (wo.alloc (.cells #[.string ⟨nm.toArray⟩, .int .i64 lv, .int .i64 fr, .int .i64 to_, .bool ng] 39)).heap.size := by simp
      have hBw : B ≤ wo.heap.size := by have := hbr.size; omega
      generalize wo.alloc (.cells #[.string ⟨nm.toArray⟩, .int .i64 lv, .int .i64 fr, .int .i64 to_, .bool ng] 39) = wz at *
      obtain ⟨z0, z1, z2, z3, z4⟩ := hcz
      generalize wo.heap.size = g at *
      have HP : Hid (∀ w', w'.heap = wz.heap → Below w.heap.size w w' → Calls Tryz.prog 26 #[.slice (some ad) k c, .agg #[.string ⟨nm.toArray⟩, .int .i64 lv, .int .i64 fr, .int .i64 to_, .bool ng]] w' fun e w'' => e = .returned (.bool (okRow (lvl rs k) ⟨nm, lv, fr, to_, ng⟩)) ∧ Below w.heap.size w w'') := by
        show ∀ _, _
        intro w' hh hb
        have h := proper_any (rs.take k) (some ad) k c ⟨nm, lv, fr, to_, ng⟩ B w' (HRZ.out.of_heap hh) (by rw [hh]; omega) (by omega) (by rw [hlt'.out]; exact HLV.out.1) hnk.out
        rw [hlt'.out] at h
        exact h.mono (by rintro e w'' ⟨rfl, h⟩; exact ⟨rfl, below_two hb h⟩)
      cases ho : okRow (lvl rs k) ⟨nm, lv, fr, to_, ng⟩
      · have F := Lib.hid (hok.out ho)
        have HO := Lib.hid ho
        clear ho
        go_region_with (go_at_call 26; refine (HP.out _ (by rfl) (by exact ⟨HBO.out.os, HBO.out.tape, HBO.out.output, HBO.out.size, HBO.out.block⟩)).mono ?_; rintro e w1 ⟨rfl, hb1⟩; rw [HO.out])
        all_goals
          go_wp2_with fail
          go_ret
          exact ⟨ret_bool F.out.symm, hb1⟩
      · have F := Lib.hid (hstep.out ho)
        have HO := Lib.hid ho
        clear ho
        go_region_with (go_at_call 26; refine (HP.out _ (by rfl) (by exact ⟨HBO.out.os, HBO.out.tape, HBO.out.output, HBO.out.size, HBO.out.block⟩)).mono ?_; rintro e w1 ⟨rfl, hb1⟩; rw [HO.out])
        all_goals
          go_wp2_with fail
          go_roundw
          case rel => exact ⟨k + 1, by omega, by go_num, F.out, hb1⟩
          case measure => simp [intOf]; omega
    · have F := Lib.hid (validR_end (show rs.length ≤ k by rw [HL.out]; omega) HL.out HV.out)
      have k3 : decide ((k : Int) < (n : Int)) = false := by rw [decide_eq_false_iff_not]; omega
      go_wp2_with fail
      go_ret
      exact ⟨ret_bool (by rw [F.out]; first | exact nat_le_300 n | rfl), hbr⟩
end Go.Proofs.YtcmmppkmkejniaaGreatDoor
