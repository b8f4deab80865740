/-
  A range over a function whose iterator keeps its state in a box of its own (three boxes from block Bs on; the first is written between two rounds): the iterator's contract, and the statement's law.
  strings.SplitSeq at a separator of one byte: its iterator's contract.
  Queries: what a list of words is read as (plain).
  The program's reader: by.
  The program's reader: by, walked.
  The program's reader: cond, all ways joined.
  The program's reader: query, what its parts need (plain laws, and the state between two steps).
  The program's reader: query, where the verb falls.
-/
import Derived.Test.YtfnlddloalineaaGreatDoorKit
import Derived.RangeFuncNested
import Derived.RangeFuncBound
import Derived.RangeFuncCalls
import Derived.RangeFuncLeaves
import Derived.Test.YtfnlddloalineaaGreatDoorQryA1
import Derived.Lib.IndexLaws
import Derived.Shelf.Abstract
import Derived.Shelf.RegionOpen
import Derived.WalkKit
import Derived.OwnWalkIn
import Derived.TacticsInMore
import Derived.LoopNIn
import Derived.LoopIn
import Derived.Test.YtfnlddloalineaaGreatDoorQryA2
import Derived.Maps.AppendAt
namespace Go.Proofs.YtfnlddloalineaaGreatDoor
open Go.RowKit
set_option linter.unusedVariables false
/-- what is said abides a turn of the box Bs, and new blocks -/
def AbBox {β : Type} (Bs : Nat) (J : β → World → Prop) : Prop := ∀ s A B, J s A → A.grownBy B (some Bs) → J s B
/-- what is said abides a turn of the box Bs, of blocks from D on that are no cells, and new blocks -/
def OwnBox {β : Type} (D Bs : Nat) (I : β → World → Prop) : Prop :=
  ∀ s A B row, I s A → A.grownBy B row → (∀ r, row = some r → r = Bs ∨ (D ≤ r ∧ ∃ o : Obj, A.heap[r]? = some o ∧ o.isCells = false)) → I s B
/-- the three boxes lie as they lay -/
def KpBox (Bs : Nat) (A B : World) : Prop := ∀ k, Bs ≤ k → k < Bs + 3 → B.heap[k]? = A.heap[k]?
theorem KpBox.trans {Bs : Nat} {A B C : World} (h : KpBox Bs A B) (k : KpBox Bs B C) : KpBox Bs A C := fun j h1 h2 => (k j h1 h2).trans (h j h1 h2)
theorem KpBox.putObj {Bs l : Nat} (A : World) (o : Obj) (h : Bs + 3 ≤ l) : KpBox Bs A (A.putObj l o) := fun j h1 h2 => World.putObj_heap_other (by omega)
/-- the iterator's contract: it gives xs, one by one; or it is stopped -/
def SeqBox {α : Type} (F : Fence) (n : Nat) (P : Program) (g : Nat) (lb : Array Value) (Bs : Nat) (encs : α → Array Value) (xs : List α) (w0 : World) : Prop :=
  ∀ (l : Nat) (J Jx : List α → World → Prop) (W : World), (∀ k, k < w0.heap.size → W.heap[k]? = w0.heap[k]?) → AbBox Bs J → AbBox Bs Jx →
    (∀ pre x W1, J pre W1 → (pre ++ [x]) <+: xs → YieldAt F (n - 1) P l (encs x) W1 fun e W' =>
      (e = .returned (.bool true) ∧ J (pre ++ [x]) W' ∧ KpBox Bs W1 W') ∨ (e = .returned (.bool false) ∧ Jx (pre ++ [x]) W')) →
    J [] W →
    CallsIn F n P g (#[.func (.yield l) #[] #[]] ++ lb) W fun e W' => (∃ v, e = .returned v) ∧ (J xs W' ∨ ∃ pre, pre <+: xs ∧ Jx pre W')
/-- how the body of a round may be left -/
def boxPost {α : Type} (D Bs : Nat) (I : List α → World → Prop) (Ix : Code → List α → World → Prop) (xs : List α) (W : World) : Exit → Act → World → Prop
  | .normal, _, W' => KeepsFrom D W W' ∧ KpBox Bs W W' ∧ I xs W'
  | .ret, _, W' => KeepsFrom D W W' ∧ Ix .ret xs W'
  | .exit id, _, W' => KeepsFrom D W W' ∧ Ix (.exit id) xs W'
  | .goto t, _, W' => KeepsFrom D W W' ∧ Ix (.goto t) xs W'
  | .panic _, _, _ => False
  | .outgrown, _, _ => False
variable {F : Fence} {n : Nat} {P : Program}
theorem wpIn_rangeFunc_box {α : Type} {g : Operand} {ps : Array Tmp} {assign body : Code} {Q : Exit → Act → World → Prop} {a : Act} {w : World}
    (hro : F.round = none) (h1 : 1 ≤ n) {gf : Nat} {lb : Array Value} (hg : a.eval g = .func (.func gf) #[] lb) (hFg : F.fn gf) (eg : ∀ args w, (callFunc gf args).run P w = .ok (.enter gf args) w)
    {encs : α → Array Value} {Bs : Nat} {xs : List α} (hseq : SeqBox F (n - 1) P gf lb Bs encs xs w) (hBs : Bs + 3 ≤ w.heap.size) (hps : ∀ x, (encs x).size = ps.size)
    (I : List α → World → Prop) (Ix : Code → List α → World → Prop) (hI : OwnBox w.heap.size Bs I) (hIx : ∀ c, OwnBox w.heap.size Bs (Ix c)) (h0 : I [] w) (a₁ : α → Act)
    (hassign : ∀ (l : Nat) (x : α) (W : World) (K : Act → World → Prop), K (a₁ x) W →
      assign.wpIn (F.inRound l) (n - 1 - 1) P (Exit.then K (fun _ _ _ => False)) { tmps := (ps.zip (encs x)).foldl (fun t (p, v) => t.setIfInBounds p v) a.tmps, defers := [] } W)
    (hbody : ∀ (l : Nat) (pre : List α) (x : α) (W : World), I pre W → (pre ++ [x]) <+: xs → body.wpIn (F.inRound l) (n - 1 - 1) P (boxPost w.heap.size Bs I Ix (pre ++ [x]) W) (a₁ x) W)
    (hdone : ∀ (D : Nat) (W : World), w.heap.size ≤ D → I xs W → W.heap[D]? = some (.deferred (some [])) → Q .normal { a with defers := { target := .collected D, args := #[] } :: a.defers } W)
    (hstop : ∀ (D : Nat) (c : Code) (pre : List α) (W : World), w.heap.size ≤ D → pre <+: xs → Ix c pre W → W.heap[D]? = some (.deferred (some [])) → c.wpIn F n P Q { a with defers := { target := .collected D, args := #[] } :: a.defers } W) :
    (Code.rangeFunc g ps assign body).wpIn F n P Q a w := by
  refine wpIn_rangeFunc ?_
  intro fn hfn
  rw [hro]
  obtain ⟨rec, hrec⟩ : ∃ rec : LoopState → Option Code → Loop, rec = fun st pe => { state := st, pending := pe, fn, tmps := a.tmps, params := ps, assign, body, defers := w.heap.size } := ⟨_, rfl⟩
  obtain ⟨W1, hW1⟩ : ∃ W1, (w.alloc (.deferred (some []))).alloc (.loop (rec .ready none)) = W1 := ⟨_, rfl⟩
  obtain ⟨L, hL⟩ : ∃ L, L = w.heap.size + 1 := ⟨_, rfl⟩
  have hL1 : W1.heap[L]? = some (.loop (rec .ready none)) := by
    rw [← hW1, hL]; have := World.alloc_heap_new (w.alloc (.deferred (some []))) (.loop (rec .ready none)); rwa [World.size_alloc] at this
  have hK1 : W1.heap[w.heap.size]? = some (.deferred (some [])) := by
    rw [← hW1]; exact (Below.heap_alloc _ _ _ (by simp)).trans (World.alloc_heap_new w _)
  have hnone : ∀ {A : World} (r : Nat), (none : Option Nat) = some r → r = Bs ∨ (w.heap.size ≤ r ∧ ∃ o : Obj, A.heap[r]? = some o ∧ o.isCells = false) := fun r e => by cases e
  have hI1 : I [] W1 := by
    rw [← hW1]
    exact hI _ _ _ none (hI _ _ _ none h0 (World.grownBy_alloc w _ none) hnone) (World.grownBy_alloc _ _ none) hnone
  have hlow : ∀ k, k < w.heap.size → W1.heap[k]? = w.heap[k]? := fun k hk => by
    rw [← hW1]; exact (Below.heap_alloc _ _ _ (by simp; omega)).trans (Below.heap_alloc w _ _ hk)
  have put : ∀ {β : Type} {J : β → World → Prop}, OwnBox w.heap.size Bs J → ∀ {s : β} {A : World} {k : Nat} {o : Obj} (o' : Obj), J s A → w.heap.size ≤ k → A.heap[k]? = some o → o.isCells = false → J s (A.putObj k o') :=
    fun hJ s A k o o' hs hk ho hc => hJ s A _ (some k) hs (grownBy_putObj' A k o') (fun r e => by cases e; exact .inr ⟨hk, o, ho, hc⟩)
  have box : ∀ {β : Type} {J : β → World → Prop}, OwnBox w.heap.size Bs J → AbBox Bs J := fun hJ s A B hs hg => hJ s A B (some Bs) hs hg (fun r e => by cases e; exact .inl rfl)
  have low : ∀ {A B : World} {k : Nat} {o : Obj}, A.grownBy B (some Bs) → w.heap.size ≤ k → A.heap[k]? = some o → B.heap[k]? = some o :=
    fun hg hk ho => (hg.block _ (Array.getElem?_eq_some_iff.1 ho).1 (fun e => by cases e; omega)).trans ho
  refine ⟨L, [{ target := .collected w.heap.size, args := #[] }], W1, { target := .fn (.func gf) lb, args := #[.func (.yield L) #[] #[]] }, W1, gf,
    #[.func (.yield L) #[] #[]] ++ lb, W1, ?_, ?_, ?_, ?_, fun _ => h1, ?_⟩
  · rw [← hW1, hrec, hL]; exact run_enterLoop_outer _ _ _ _ _
  · simp only [resolve, hg]
    simp [go_sem]
  · intro f' hf'; simp [Target.leads] at hf'; subst hf'; exact hFg
  · simp [invoke, go_sem, eg]
  · refine (hseq L
      (fun pre W => I pre W ∧ W.heap[L]? = some (.loop (rec .ready none)) ∧ W.heap[w.heap.size]? = some (.deferred (some [])))
      (fun pre W => ∃ c, Ix c pre W ∧ W.heap[L]? = some (.loop (rec .done (some c))) ∧ W.heap[w.heap.size]? = some (.deferred (some [])))
      W1 hlow
      (fun s A B hs hg' => ⟨box hI s A B hs.1 hg', low hg' (by omega) hs.2.1, low hg' (Nat.le_refl _) hs.2.2⟩)
      (fun s A B hs hg' => by
        obtain ⟨c, hc, hl, hk⟩ := hs
        exact ⟨c, box (hIx c) s A B hc hg', low hg' (by omega) hl, low hg' (Nat.le_refl _) hk⟩)
      ?_ ⟨hI1, hL1, hK1⟩).mono ?_
    · rintro pre x W ⟨hi, hl, hk⟩ hpre
      have hlt : L < W.heap.size := (Array.getElem?_eq_some_iff.1 hl).1
      have hy := run_yield (P := P) (args := encs x) hl (by rw [hrec]; exact hps x)
      rw [hrec] at hy
      refine ⟨fn, _, assign, body, hy, roundIn_of_wpIn hfn (hassign _ x W _ ⟨_, run_beginRound hl (by rw [hrec]), ?_⟩)⟩
      have hl2 : (W.putObj L (.loop { rec .ready none with state := .busy })).heap[L]? = some (.loop { rec .ready none with state := .busy }) := World.putObj_heap_same hlt
      have hk2 : (W.putObj L (.loop { rec .ready none with state := .busy })).heap[w.heap.size]? = some (.deferred (some [])) := (World.putObj_heap_other (by omega)).trans hk
      have hw2 : KpBox Bs W (W.putObj L (.loop { rec .ready none with state := .busy })) := KpBox.putObj _ _ (by omega)
      refine wpIn_mono (hbody _ pre x _ (put hI _ hi (by omega) hl rfl) hpre) ?_
      have fin : ∀ (jump : Option Code) (W3 : World), KeepsFrom w.heap.size (W.putObj L (.loop { rec .ready none with state := .busy })) W3 →
          (Instr.endRound L jump).run P W3 = .ok (.bool jump.isNone) (W3.putObj L (.loop (rec (if jump.isNone then .ready else .done) jump))) ∧
          W3.heap[L]? = some (.loop { rec .ready none with state := .busy }) ∧
          (W3.putObj L (.loop (rec (if jump.isNone then .ready else .done) jump))).heap[L]? = some (.loop (rec (if jump.isNone then .ready else .done) jump)) ∧
          (W3.putObj L (.loop (rec (if jump.isNone then .ready else .done) jump))).heap[w.heap.size]? = some (.deferred (some [])) := fun jump W3 hk3 => by
        have hl3 := hk3.same _ _ (by omega) hl2 rfl
        have := run_endRound (P := P) jump hl3
        rw [hrec] at this ⊢
        exact ⟨this, by rw [hrec] at hl3; exact hl3, World.putObj_heap_same (Array.getElem?_eq_some_iff.1 hl3).1, (World.putObj_heap_other (by omega)).trans (hk3.same _ _ (Nat.le_refl _) hk2 rfl)⟩
      rintro e a3 W3 hp
      cases e with
      | normal =>
        obtain ⟨hk3, hkp3, hi3⟩ := hp
        obtain ⟨hr, hl3, hl4, hk4⟩ := fin none W3 hk3
        exact ⟨_, _, hr, .inl ⟨rfl, ⟨put hI _ hi3 (by omega) hl3 rfl, hl4, hk4⟩, (hw2.trans hkp3).trans (KpBox.putObj _ _ (by omega))⟩⟩
      | ret =>
        obtain ⟨hk3, hi3⟩ := hp
        obtain ⟨hr, hl3, hl4, hk4⟩ := fin (some .ret) W3 hk3
        exact ⟨_, _, hr, .inr ⟨rfl, .ret, put (hIx _) _ hi3 (by omega) hl3 rfl, hl4, hk4⟩⟩
      | exit id =>
        obtain ⟨hk3, hi3⟩ := hp
        obtain ⟨hr, hl3, hl4, hk4⟩ := fin (some (.exit id)) W3 hk3
        exact ⟨_, _, hr, .inr ⟨rfl, .exit id, put (hIx _) _ hi3 (by omega) hl3 rfl, hl4, hk4⟩⟩
      | goto t =>
        obtain ⟨hk3, hi3⟩ := hp
        obtain ⟨hr, hl3, hl4, hk4⟩ := fin (some (.goto t)) W3 hk3
        exact ⟨_, _, hr, .inr ⟨rfl, .goto t, put (hIx _) _ hi3 (by omega) hl3 rfl, hl4, hk4⟩⟩
      | panic ch => exact hp.elim
      | outgrown => exact hp.elim
    · rintro e W2 ⟨⟨v, rfl⟩, (⟨hi, hl, hk⟩ | ⟨pre, hSp, c, hi, hl, hk⟩)⟩
      · exact ⟨none, _, by have := run_endLoop (P := P) hl (by rw [hrec]; simp); rw [hrec] at this; exact this, hdone _ _ (Nat.le_refl _) (put hI _ hi (by omega) hl rfl) ((World.putObj_heap_other (by omega)).trans hk)⟩
      · exact ⟨some c, _, by have := run_endLoop (P := P) hl (by rw [hrec]; simp); rw [hrec] at this; exact this, hstop _ c pre _ (Nat.le_refl _) hSp (put (hIx c) _ hi (by omega) hl rfl) ((World.putObj_heap_other (by omega)).trans hk)⟩
end Go.Proofs.YtfnlddloalineaaGreatDoor
namespace Go.Proofs.YtfnlddloalineaaGreatDoor
open Go.RowKit Go.Shelf
attribute [local go_sem] Oper.semAt_some
set_option linter.unusedVariables false
theorem indexByte_no {l : List UInt8} {c : UInt8} (h : c ∉ l) : Lib.indexByte l c = -1 := by
  induction l with
  | nil => rfl
  | cons b r ih =>
    unfold Lib.indexByte
    have h1 : ¬ b = c := fun e => h (by rw [e]; simp)
    have h2 := ih (fun hm => h (by simp [hm]))
    simp [h1, h2]
theorem indexByte_at {a b : List UInt8} {c : UInt8} (h : c ∉ a) : Lib.indexByte (a ++ c :: b) c = a.length := by
  induction a with
  | nil => simp [Lib.indexByte]
  | cons x r ih =>
    rw [List.cons_append]
    unfold Lib.indexByte
    have h1 : ¬ x = c := fun e => h (by rw [e]; simp)
    have h2 := ih (fun hm => h (by simp [hm]))
    have h3 : ¬ ((r.length : Int) = -1) := by omega
    simp [h1, h2, h3]
    try omega
/-- how much the box still holds -/
def boxLen (W : World) (B : Nat) : Nat := match W.cell? ⟨B, 0, none⟩ with
  | some (.string s) => s.size
  | _ => 0
theorem boxLen_eq {W : World} {B : Nat} {T : TypeId} {s : ByteArray} (h : Boxed W B T (.string s)) : boxLen W B = s.size := by
  unfold boxLen
  rw [h.cell]
theorem box_keep {Bs k : Nat} {T : TypeId} {A B : World} {v : Value} (h : Boxed A k T v) (hk : KpBox Bs A B) (h1 : Bs ≤ k) (h2 : k < Bs + 3) : Boxed B k T v := (hk k h1 h2).trans h
set_option maxRecDepth 100000 in
set_option maxHeartbeats 2000000 in
theorem splitSeq1_in (n : Nat) (hn : 1 ≤ n) (l Bs : Nat) (t : List UInt8) (J Jx : List (List UInt8) → World → Prop) (hJ : AbBox Bs J)
    (hY : ∀ pre x W1, J pre W1 → (pre ++ [x]) <+: piecesL 44 t → YieldAt Fence.wide (n - 1) Tryz.prog l #[.string ⟨x.toArray⟩] W1 fun e W' =>
      (e = .returned (.bool true) ∧ J (pre ++ [x]) W' ∧ KpBox Bs W1 W') ∨ (e = .returned (.bool false) ∧ Jx (pre ++ [x]) W'))
    (W : World) (b0 : Boxed W Bs 9 (.string ⟨t.toArray⟩)) (b1 : Boxed W (Bs + 1) 9 (.string ⟨#[44]⟩)) (b2 : Boxed W (Bs + 2) 3 (.int .i64 0)) (ht : t.length ≤ 100000) (h0 : J [] W) :
    CallsIn Fence.wide n Tryz.prog 152 #[.func (.yield l) #[] #[], .pointer (some ⟨Bs + 1, 0, none⟩), .pointer (some ⟨Bs, 0, none⟩), .pointer (some ⟨Bs + 2, 0, none⟩)] W fun e W' =>
      (∃ v, e = .returned v) ∧ (J (piecesL 44 t) W' ∨ ∃ pre, pre <+: piecesL 44 t ∧ Jx pre W') := by
  have c1 := b1.cell
  refine callsIn_of_wp Tryz.func152 rfl trivial ?_ rfl
  simp only [Tryz.ntmps152, List.size_toArray, List.length_cons, List.length_nil, Nat.reduceAdd, Nat.reduceSub, Array.replicate_succ, Array.replicate_zero, List.push_toArray, List.append_toArray, List.nil_append, List.cons_append]
  gi_wp2
  gi_loopw [7] (fun i wr => ∃ (pre : List (List UInt8)) (r : List UInt8), piecesL 44 t = pre ++ piecesL 44 r ∧ r.length ≤ t.length ∧ Boxed wr Bs 9 (.string ⟨r.toArray⟩) ∧ Boxed wr (Bs + 1) 9 (.string ⟨#[44]⟩) ∧ Boxed wr (Bs + 2) 3 (.int .i64 0) ∧ J pre wr) (fun _ wr => boxLen wr Bs)
  case atStart => exact ⟨[], t, rfl, Nat.le_refl _, b0, b1, b2, h0⟩
  case round =>
    obtain ⟨pre, r, hp, hrl, e0, e1, e2, hj⟩ := hrel
    have c0 := e0.cell
    have c1 := e1.cell
    have c2 := e2.cell
    have hix := (callsIn_wide (n := n - 1)).2 (Tryz.strings_Index_one ⟨r.toArray⟩ 44 wr)
    by_cases hm : (44 : UInt8) ∈ r
    · obtain ⟨a, b, hr, ha⟩ := split_at hm
      have hi : Lib.indexByte (⟨r.toArray⟩ : ByteArray).data.toList 44 = (a.length : Int) := by
        show Lib.indexByte r.toArray.toList 44 = _
        rw [List.toList_toArray, hr]; exact indexByte_at ha
      rw [hi] at hix
      have hpa : piecesL 44 t = (pre ++ [a]) ++ piecesL 44 b := by rw [hp, hr, piecesL_at ha]; simp
      obtain ⟨fn, tmps, assign, body, hy, hR⟩ := hY pre a wr hj ⟨piecesL 44 b, hpa.symm⟩
      have hln : r.length = a.length + (b.length + 1) := by rw [hr]; simp
      have hx1 : (⟨r.toArray⟩ : ByteArray).extract 0 a.length = ⟨a.toArray⟩ := by
        rw [ex_mk, hr]; simp
      have hx2 : (⟨r.toArray⟩ : ByteArray).extract (a.length + 1) r.length = ⟨b.toArray⟩ := by
        rw [ex_mk, List.take_length, hr, ← List.drop_drop]; simp
      have HPA := Lib.hid hpa
      have HLN := Lib.hid hln
      have hal : a.length + 1 ≤ r.length := by omega
      have hbl : b.length < r.length := by omega
      clear hr hm hi hp hpa hln ha b0 b1 b2 h0 c1
      have c1 := e1.cell
      have f0 := e0.frozen
      have k1 : decide ((a.length : Int) < 0) = false := by rw [decide_eq_false_iff_not]; omega
      gi_wp2_with fail
      refine ⟨trivial, hix.mono ?_⟩
      rintro e w' ⟨rfl, rfl⟩
      gi_wp2_with fail
      refine hR.mono ?_
      clear hix hy hR c0 c1 c2 f0
      rintro e W3 (⟨rfl, hJ3, hk3⟩ | ⟨rfl, hJx3⟩)
      · have g0 := box_keep e0 hk3 (Nat.le_refl _) (by omega)
        have g1 := box_keep e1 hk3 (by omega) (by omega)
        have g2 := box_keep e2 hk3 (by omega) (by omega)
        have c0 := g0.cell
        have c1 := g1.cell
        have f0 := g0.frozen
        gi_wp2_with fail
        go_roundw
        case rel =>
          exact ⟨pre ++ [a], b, HPA.out, by omega, g0.set _, Boxed.kept g1 (grownBy_setCell' _ _ _) (by intro e; injection e; omega), Boxed.kept g2 (grownBy_setCell' _ _ _) (by intro e; injection e; omega), hJ _ _ _ hJ3 (grownBy_setCell' _ _ _)⟩
        case measure =>
          rw [boxLen_eq (g0.set _), boxLen_eq e0, mk_size, mk_size]; exact hbl
      · gi_wp2_with fail
        refine bodyPost_ret (results_none rfl _ _ _) rfl ?_
        exact ⟨⟨_, rfl⟩, .inr ⟨pre ++ [a], ⟨piecesL 44 b, HPA.out.symm⟩, hJx3⟩⟩
    · have hi : Lib.indexByte (⟨r.toArray⟩ : ByteArray).data.toList 44 = -1 := by
        show Lib.indexByte r.toArray.toList 44 = _
        rw [List.toList_toArray]; exact indexByte_no hm
      rw [hi] at hix
      have hpa : piecesL 44 t = pre ++ [r] := by rw [hp, piecesL_no hm]
      obtain ⟨fn, tmps, assign, body, hy, hR⟩ := hY pre r wr hj ⟨[], by rw [hpa]; simp⟩
      have HPA := Lib.hid hpa
      clear hm hi hp hpa b0 b1 b2 h0
      have c1 := e1.cell
      gi_wp2_with fail
      refine ⟨trivial, hix.mono ?_⟩
      rintro e w' ⟨rfl, rfl⟩
      gi_wp2_with fail
      refine hR.mono ?_
      clear hix hy hR c0 c1 c2
      rintro e W3 (⟨rfl, hJ3, hk3⟩ | ⟨rfl, hJx3⟩)
      · gi_wp2_with fail
        go_end0
        exact ⟨⟨_, rfl⟩, .inl (by rw [HPA.out]; exact hJ3)⟩
      · gi_wp2_with fail
        go_end0
        exact ⟨⟨_, rfl⟩, .inr ⟨pre ++ [r], ⟨[], by rw [HPA.out]; simp⟩, hJx3⟩⟩
end Go.Proofs.YtfnlddloalineaaGreatDoor
namespace Go.Proofs.YtfnlddloalineaaGreatDoor
set_option linter.unusedVariables false
abbrev Wd := List UInt8
def byW : Wd := [98, 121]
def whereW : Wd := [119, 104, 101, 114, 101]
def andW : Wd := [97, 110, 100]
/-- a condition: it and the words that are left; or the words that are left and the error -/
def cndR : List Wd → Except (List Wd × Int) (SCond × List Wd)
  | [] => .error ([], 3)
  | x :: ws => if idxW fdL x < 0 then .error (x :: ws, 17) else match ws with
    | [] => .error ([], 3)
    | o :: vs => if idxW (opL.take (opN (idxW fdL x))) o < 0 then .error (o :: vs, 3) else match vs with
      | [] => .error ([], 3)
      | v :: r => if (valO (idxW fdL x) v).2 = 0 then .ok (⟨idxW fdL x, idxW (opL.take (opN (idxW fdL x))) o, (valO (idxW fdL x) v).1⟩, r) else .error (v :: r, (valO (idxW fdL x) v).2)
/-- the conditions, n of them at most -/
def whR : Nat → List SCond → List Wd → Except (List Wd × Int) (List SCond)
  | 0, _, ws => if ws = [] then .error ([], 3) else .error (ws, 6)
  | n + 1, acc, ws => match cndR ws with
    | .error p => .error p
    | .ok (c, r) => match r with
      | [] => .ok (acc ++ [c])
      | y :: r' => if y = andW then whR n (acc ++ [c]) r' else .error (y :: r', 3)
def dupB (l : List Int) : Bool := (List.range l.length).any fun i => (l.take i).contains (l.getD i 0)
/-- a list of fields -/
def byN (w : Wd) : List Int := (piecesL 44 w).map (idxW fdL)
def byR (w : Wd) : Except Int (List Int) := if (byN w).any (fun x => decide (x < 0)) = true then .error 17 else if dupB (byN w) = true then .error 9 else .ok (byN w)
def tailR (verb : Int) (by_ : List Int) : List Wd → Except (List Wd × Int) SQry
  | [] => .ok ⟨verb, by_, []⟩
  | x :: r => if x = whereW then (match whR 20 [] r with | .error p => .error p | .ok cs => .ok ⟨verb, by_, cs⟩) else .error (x :: r, 3)
def qryR : List Wd → Except (List Wd × Int) SQry
  | [] => .error ([], 3)
  | v :: ws => if idxW vbL v < 0 then .error (v :: ws, 3) else match ws with
    | [] => .ok ⟨idxW vbL v, [], []⟩
    | b :: ws1 => if b = byW then (match ws1 with
        | [] => .error ([], 3)
        | f :: ws2 => match byR f with
          | .error e => .error (f :: ws2, e)
          | .ok l => tailR (idxW vbL v) l ws2) else tailR (idxW vbL v) [] (b :: ws1)
/-- the place at which reading has stopped -/
def plcR (ws r : List Wd) (len : Nat) : Nat := if r = [] then len else plS ws (ws.length - r.length)
end Go.Proofs.YtfnlddloalineaaGreatDoor
namespace Go.Proofs.YtfnlddloalineaaGreatDoor
open Go.RowKit Go.Shelf
attribute [local go_sem] Oper.semAt_some
set_option linter.unusedVariables false
theorem splitSeq_any (s c : ByteArray) (w : World) :
    Calls Tryz.prog 100 #[.string s, .string c] w fun e w' => e = .returned (.func (.func 152) #[] #[.pointer (some ⟨w.heap.size + 1, 0, none⟩), .pointer (some ⟨w.heap.size, 0, none⟩), .pointer (some ⟨w.heap.size + 1 + 1, 0, none⟩)]) ∧
      w' = ((w.alloc (.cells #[.string s] 9)).alloc (.cells #[.string c] 9)).alloc (.cells #[.int .i64 0] 3) := by
  have h : Calls Tryz.prog 126 #[.string s, .string c, .int .i64 0] w fun e w' => e = .returned (.func (.func 152) #[] #[.pointer (some ⟨w.heap.size + 1, 0, none⟩), .pointer (some ⟨w.heap.size, 0, none⟩), .pointer (some ⟨w.heap.size + 1 + 1, 0, none⟩)]) ∧
      w' = ((w.alloc (.cells #[.string s] 9)).alloc (.cells #[.string c] 9)).alloc (.cells #[.int .i64 0] 3) := by
    go_enter Tryz.func126, Tryz.ntmps126
    go_wp2_with fail
    go_ret
    exact ⟨rfl, rfl⟩
  go_enter Tryz.func100, Tryz.ntmps100
  go_wp2_with fail
  refine h.mono ?_
  rintro e w' ⟨rfl, rfl⟩
  go_wp2_with fail
  go_ret
  exact ⟨rfl, rfl⟩
/-- what the iterator gives -/
theorem splitSeq_box (n : Nat) (hn : 1 ≤ n) (Bs : Nat) (t : List UInt8) (w : World) (b0 : Boxed w Bs 9 (.string ⟨t.toArray⟩)) (b1 : Boxed w (Bs + 1) 9 (.string ⟨#[44]⟩)) (b2 : Boxed w (Bs + 1 + 1) 3 (.int .i64 0)) (ht : t.length ≤ 100000) :
    SeqBox Fence.wide n Tryz.prog 152 #[.pointer (some ⟨Bs + 1, 0, none⟩), .pointer (some ⟨Bs, 0, none⟩), .pointer (some ⟨Bs + 1 + 1, 0, none⟩)] Bs (fun x : List UInt8 => #[.string ⟨x.toArray⟩]) (piecesL 44 t) w :=
  fun l J Jx W hW hJ _ hY h0 => splitSeq1_in n hn l Bs t J Jx hJ hY W ((hW _ b0.lt).trans b0) ((hW _ b1.lt).trans b1) ((hW _ b2.lt).trans b2) ht h0
theorem dupB_yes {l : List Int} {i : Nat} (hi : i < l.length) (h : (l.take i).contains (l.getD i 0) = true) : dupB l = true := by
  unfold dupB
  rw [List.any_eq_true]
  exact ⟨i, List.mem_range.2 hi, h⟩
theorem dupB_no {l : List Int} (h : ∀ i, i < l.length → (l.take i).contains (l.getD i 0) = false) : dupB l = false := by
  unfold dupB
  rw [List.any_eq_false]
  intro i hi
  rw [h i (List.mem_range.1 hi)]
  simp
theorem byR_unknown {w : Wd} (h : ∃ y, y ∈ piecesL 44 w ∧ idxW fdL y < 0) : byR w = .error 17 := by
  obtain ⟨y, hy, h⟩ := h
  unfold byR
  have hm : idxW fdL y ∈ byN w := List.mem_map.2 ⟨y, hy, rfl⟩
  have ha : (byN w).any (fun x => decide (x < 0)) = true := List.any_eq_true.2 ⟨_, hm, by rw [decide_eq_true_eq]; exact h⟩
  rw [if_pos ha]
theorem byR_known {w : Wd} (h : ∀ y, y ∈ piecesL 44 w → ¬ idxW fdL y < 0) : byR w = if dupB (byN w) = true then .error 9 else .ok (byN w) := by
  unfold byR
  rw [if_neg]
  rw [List.any_eq_true]
  rintro ⟨z, hz, hd⟩
  obtain ⟨y, hy, rfl⟩ := List.mem_map.1 hz
  exact h y hy (by rw [decide_eq_true_eq] at hd; exact hd)
/-- how by ends -/
def BySays (B R : Nat) (x : List UInt8) (ws : List (List UInt8)) (p : Int) (ps : List Int) (len : Int) (w : World) (e : Ending) (w' : World) : Prop := match byR x with
  | .error E => e = .returned (.tuple #[.slice none 0 0, .int .i64 E]) ∧ Rdr w' B R (x :: ws) (p :: ps) len ∧ w.grownBy w' (some R)
  | .ok l => ∃ v, e = .returned (.tuple #[v, .int .i64 0]) ∧ w'.ownsRow w.heap.size 3 1 v l.length (l.map intV) ∧ Rdr w' B R ws ps len ∧ w.grownBy w' (some R)
/-- between two rounds -/
def ByI (n0 : Nat) (w0 : World) (pre : List (List UInt8)) (W : World) : Prop :=
  (n0 + 6 ≤ W.heap.size ∧ (∀ y, y ∈ pre → 0 ≤ idxW fdL y) ∧ Boxed W n0 23 (.slice none 0 0) ∧ Boxed W (n0 + 1) 27 (.int .i64 0)) ∧ (∃ v, Boxed W (n0 + 2) 23 v ∧ W.ownsRow (n0 + 6) 3 1 v pre.length ((pre.map (idxW fdL)).map intV)) ∧ Below n0 w0 W
/-- where a round has left -/
def ByIx (n0 : Nat) (w0 : World) (c : Code) (pre : List (List UInt8)) (W : World) : Prop :=
  c = .ret ∧ n0 + 6 ≤ W.heap.size ∧ (∃ y, y ∈ pre ∧ idxW fdL y < 0) ∧ Boxed W n0 23 (.slice none 0 0) ∧ Boxed W (n0 + 1) 27 (.int .i64 17) ∧ Below n0 w0 W
theorem box_turn {D Bs k row : Nat} {T : TypeId} {v : Value} {A B : World} (h : Boxed A k T v) (h1 : k < D) (h2 : k ≠ Bs) (hr : row = Bs ∨ (D ≤ row ∧ ∃ o : Obj, A.heap[row]? = some o ∧ o.isCells = false)) : some k ≠ some row := by
  intro e
  injection e with e
  subst e
  rcases hr with e | ⟨e, _⟩ <;> omega
theorem box_own {D Bs k : Nat} {T : TypeId} {v : Value} {A B : World} {row : Option Nat} (h : Boxed A k T v) (hg : A.grownBy B row) (h1 : k < D) (h2 : k ≠ Bs) (hr : ∀ r, row = some r → r = Bs ∨ (D ≤ r ∧ ∃ o : Obj, A.heap[r]? = some o ∧ o.isCells = false)) : Boxed B k T v :=
  h.kept hg (fun e => by
    cases row with
    | none => cases e
    | some r => exact box_turn (D := D) (Bs := Bs) (A := A) (B := B) h h1 h2 (hr r rfl) e)
theorem below_own {D Bs n0 : Nat} {w0 A B : World} {row : Option Nat} (h : Below n0 w0 A) (hn : n0 ≤ A.heap.size) (hg : A.grownBy B row) (h1 : n0 ≤ D) (h2 : n0 ≤ Bs) (hr : ∀ r, row = some r → r = Bs ∨ (D ≤ r ∧ ∃ o : Obj, A.heap[r]? = some o ∧ o.isCells = false)) : Below n0 w0 B :=
  h.grown hg hn (fun r e => by rcases hr r e with e | ⟨e, _⟩ <;> omega)
theorem byI_own (n0 : Nat) (w0 : World) : OwnBox (n0 + 6) (n0 + 3) (ByI n0 w0) := by
  rintro pre A B row ⟨⟨h0, h1, h2, h3⟩, ⟨v, h4, h5⟩, h6⟩ hg hr
  have hs : n0 ≤ A.heap.size := Nat.le_of_lt h2.lt
  refine ⟨⟨Nat.le_trans h0 hg.size, h1, box_own h2 hg (by omega) (by omega) hr, box_own h3 hg (by omega) (by omega) hr⟩, ⟨v, box_own h4 hg (by omega) (by omega) hr, h5.kept hg ?_⟩, below_own h6 hs hg (by omega) (by omega) hr⟩
  rcases h5.2 with ⟨rfl, _⟩ | ⟨g, cap, cur, rfl, hgb, hgc, _⟩
  · exact .inl rfl
  · refine .inr fun e' => ?_
    rcases hr g (by simpa [Value.ownBlock] using e'.symm) with e | ⟨_, o, ho, hc⟩
    · omega
    · rw [hgc] at ho; cases ho; cases hc
theorem byIx_own (n0 : Nat) (w0 : World) (c : Code) : OwnBox (n0 + 6) (n0 + 3) (ByIx n0 w0 c) := by
  rintro pre A B row ⟨h0, h0', h1, h2, h3, h6⟩ hg hr
  have hs : n0 ≤ A.heap.size := Nat.le_of_lt h2.lt
  exact ⟨h0, Nat.le_trans h0' hg.size, h1, box_own h2 hg (by omega) (by omega) hr, box_own h3 hg (by omega) (by omega) hr, below_own h6 hs hg (by omega) (by omega) hr⟩
theorem kp_grown {Bs : Nat} {A B : World} {row : Option Nat} (hg : A.grownBy B row) (hs : Bs + 3 ≤ A.heap.size) (hr : ∀ r, row = some r → r < Bs ∨ Bs + 3 ≤ r) : KpBox Bs A B :=
  fun k h1 h2 => hg.block k (by omega) (fun e => by have := hr k e.symm; omega)
theorem own_low {w : World} {b b' : Nat} {e : TypeId} {size n : Nat} {v : Value} {xs : List Value} (h : w.ownsRow b e size v n xs) (hb : b' ≤ b) : w.ownsRow b' e size v n xs := by
  refine ⟨h.1, ?_⟩
  rcases h.2 with h2 | ⟨g, cap, cur, e1, hg, h3⟩
  · exact .inl h2
  · exact .inr ⟨g, cap, cur, e1, Nat.le_trans hb hg, h3⟩
theorem grown_put {w w1 : World} {row : Option Nat} (h : w.grownBy w1 row) {D : Nat} (hD : w.heap.size ≤ D) (o : Obj) : w.grownBy (w1.putObj D o) row :=
  ⟨h.os, h.tape, h.output, by rw [World.putObj_size]; exact h.size, fun i hi hne => (World.putObj_heap_other (by omega)).trans (h.block i hi hne)⟩
theorem below_put {B D : Nat} {w : World} (hD : B ≤ D) (hB : B ≤ w.heap.size) (o : Obj) : Below B w (w.putObj D o) :=
  (Below.refl B w).grown (grownBy_putObj' w D o) hB (fun r e => by cases e; exact hD)
theorem boxed_app {W w1 : World} {n₀ nb B : Nat} {t e : TypeId} {size : Nat} {v v' : Value} {k m : Nat} {xs ys : List Value} {tmp : Obj}
    (hv : Boxed W B t v) (hte : t ≠ e) (hrow : W.ownsRow nb e size v k xs) (hn₀ : n₀ ≤ W.heap.size) (hB : n₀ ≤ B) (hnb : n₀ ≤ nb)
    (hown' : w1.ownsRow nb e size v' m ys) (hgrow : (W.alloc tmp).grownBy w1 v.ownBlock) :
    Boxed w1 B t v ∧ Boxed (w1.setCell ⟨B, 0, none⟩ v') B t v' ∧ (w1.setCell ⟨B, 0, none⟩ v').ownsRow nb e size v' m ys ∧ KeepsOthers W (w1.setCell ⟨B, 0, none⟩ v') ∧ Below n₀ W (w1.setCell ⟨B, 0, none⟩ v') := by
  have hv1 : Boxed w1 B t v := (hv.alloc tmp).kept hgrow (hv.not_row hte hrow)
  refine ⟨hv1, hv1.set v', hown'.kept (grownBy_setCell' w1 B v') (.inr (hv1.not_row hte hown').symm), ?_, ?_⟩
  · refine ((KeepsOthers.alloc W tmp).trans (KeepsOthers.of_grownBy hgrow fun j o ej hj => ?_)).trans (KeepsOthers.setCell _ _ _)
    rcases (hrow.alloc tmp).2 with ⟨rfl, _⟩ | ⟨g, cap, cur, rfl, _, hgb, _⟩
    · simp [Value.ownBlock] at ej
    · obtain rfl : g = j := by simpa [Value.ownBlock] using ej
      rw [hgb] at hj; cases hj; rfl
  · refine (((Below.refl n₀ W).alloc hn₀ tmp).grown hgrow (by simp; omega) fun j ej => ?_).setCell (p := ⟨B, 0, none⟩) hB v'
    have := own_base hrow j ej
    omega
end Go.Proofs.YtfnlddloalineaaGreatDoor
namespace Go.Proofs.YtfnlddloalineaaGreatDoor
open Go.RowKit Go.Shelf
attribute [local go_sem] Oper.semAt_some
set_option linter.unusedVariables false
set_option maxRecDepth 100000
theorem six_boxes (w : World) (v0 v1 v2 v3 v4 v5 : Value) (t0 t1 t2 t3 t4 t5 : TypeId) (wx : World)
    (h : wx = (((((w.alloc (.cells #[v0] t0)).alloc (.cells #[v1] t1)).alloc (.cells #[v2] t2)).alloc (.cells #[v3] t3)).alloc (.cells #[v4] t4)).alloc (.cells #[v5] t5)) :
    wx.heap.size = w.heap.size + 6 ∧ Below w.heap.size w wx ∧ Boxed wx w.heap.size t0 v0 ∧ Boxed wx (w.heap.size + 1) t1 v1 ∧ Boxed wx (w.heap.size + 1 + 1) t2 v2 ∧ Boxed wx (w.heap.size + 1 + 1 + 1) t3 v3 ∧ Boxed wx (w.heap.size + 1 + 1 + 1 + 1) t4 v4 ∧ Boxed wx (w.heap.size + 1 + 1 + 1 + 1 + 1) t5 v5 := by
  subst h
  have b0 := Boxed.new w t0 v0
  have b1 := Boxed.new (w.alloc (.cells #[v0] t0)) t1 v1
  have b2 := Boxed.new ((w.alloc (.cells #[v0] t0)).alloc (.cells #[v1] t1)) t2 v2
  have b3 := Boxed.new (((w.alloc (.cells #[v0] t0)).alloc (.cells #[v1] t1)).alloc (.cells #[v2] t2)) t3 v3
  have b4 := Boxed.new ((((w.alloc (.cells #[v0] t0)).alloc (.cells #[v1] t1)).alloc (.cells #[v2] t2)).alloc (.cells #[v3] t3)) t4 v4
  have b5 := Boxed.new (((((w.alloc (.cells #[v0] t0)).alloc (.cells #[v1] t1)).alloc (.cells #[v2] t2)).alloc (.cells #[v3] t3)).alloc (.cells #[v4] t4)) t5 v5
  simp only [World.size_alloc] at b1 b2 b3 b4 b5
  refine ⟨by simp only [World.size_alloc], ?_, ((((b0.alloc _).alloc _).alloc _).alloc _).alloc _, (((b1.alloc _).alloc _).alloc _).alloc _, ((b2.alloc _).alloc _).alloc _, (b3.alloc _).alloc _, b4.alloc _, b5⟩
  have g := Below.refl w.heap.size w
  have g1 := g.alloc g.size (.cells #[v0] t0)
  have g2 := g1.alloc g1.size (.cells #[v1] t1)
  have g3 := g2.alloc g2.size (.cells #[v2] t2)
  have g4 := g3.alloc g3.size (.cells #[v3] t3)
  have g5 := g4.alloc g4.size (.cells #[v4] t4)
  exact g5.alloc g5.size _
set_option maxHeartbeats 4000000 in
theorem by_none (ps : List Int) (len : Int) (B R : Nat) (w : World) (h : Rdr w B R [] ps len) :
    Calls Tryz.prog 72 #[.pointer (some ⟨R, 0, none⟩)] w fun e w' => e = .returned (.tuple #[.slice none 0 0, .int .i64 3]) ∧ Rdr w' B R [] ps len ∧ w.grownBy w' (some R) := by
  have hb : Below w.heap.size w ((w.alloc (.cells #[.slice none 0 0] 23)).alloc (.cells #[.int .i64 0] 27)) := ((Below.refl w.heap.size w).alloc (Nat.le_refl _) _).alloc (by simp) _
  have HM := Lib.hid (more_any [] ps len B R _ (h.below hb))
  rw [show decide (0 < ([] : List (List UInt8)).length) = false from rfl] at HM
  have hb3 : Below w.heap.size w ((w.alloc (.cells #[.slice none 0 0] 23)).alloc (.cells #[.int .i64 3] 27)) := ((Below.refl w.heap.size w).alloc (Nat.le_refl _) _).alloc (by simp) _
  have HE := Lib.hid (h.below hb3)
  have HF := Lib.hid (grown_of_below hb3 (some R))
  have z0 := ((Boxed.new w 23 (.slice none 0 0)).alloc (.cells #[.int .i64 3] 27)).cell
  have z1 := (Boxed.new (w.alloc (.cells #[.slice none 0 0] 23)) 27 (.int .i64 3)).cell
  rw [World.size_alloc] at z1
  clear h hb hb3
  refine (callsIn_wide (n := 5)).1 ?_
  refine callsIn_of_wp_marks Tryz.func72 rfl trivial ?_ rfl
  simp only [Tryz.ntmps72, List.size_toArray, List.length_cons, List.length_nil, Nat.reduceAdd, Nat.reduceSub, Array.replicate_succ, Array.replicate_zero, List.push_toArray, List.append_toArray, List.nil_append, List.cons_append]
  gi_wp2_with fail
  refine ⟨trivial, (callsIn_wide.2 HM.out).mono ?_⟩
  rintro e wx ⟨rfl, rfl⟩
  gi_wp2_with fail
  refine ⟨.tuple #[.slice none 0 0, .int .i64 3], ?_, rfl, HE.out, HF.out⟩
  simp [results, Tryz.results72, go_sem, z0, z1]
set_option maxHeartbeats 4000000 in
theorem by_some (x : List UInt8) (ws : List (List UInt8)) (p : Int) (ps : List Int) (len : Int) (B R : Nat) (w : World) (h : Rdr w B R (x :: ws) (p :: ps) len) (hx : x.length ≤ 2000) :
    Calls Tryz.prog 72 #[.pointer (some ⟨R, 0, none⟩)] w (BySays B R x ws p ps len w) := by
  have hRw : R < w.heap.size ∧ B ≤ w.heap.size := by obtain ⟨_, _, _, _, hk, _, _, _, _, _, _, h7⟩ := h; exact ⟨hk.lt, h7⟩
  obtain ⟨hRw, hBw⟩ := hRw
  have hb2 : Below w.heap.size w ((w.alloc (.cells #[.slice none 0 0] 23)).alloc (.cells #[.int .i64 0] 27)) := ((Below.refl w.heap.size w).alloc (Nat.le_refl _) _).alloc (by simp) _
  have HM := Lib.hid (more_any (x :: ws) (p :: ps) len B R _ (h.below hb2))
  rw [show decide (0 < (x :: ws).length) = true by simp] at HM
  have hb3 := hb2.alloc hb2.size (.cells #[.slice none 0 0] 23)
  have HN := Lib.hid (next_any x ws (p :: ps) len B R _ (h.below hb3))
  have HS := Lib.hid (splitSeq_any ⟨x.toArray⟩ ⟨#[44]⟩ (((w.alloc (.cells #[.slice none 0 0] 23)).alloc (.cells #[.int .i64 0] 27)).alloc (.cells #[.slice none 0 0] 23)))
  simp only [World.size_alloc] at HS
  have HR := Lib.hid h
  clear hb2 hb3 h
  refine (callsIn_wide (n := 5)).1 ?_
  refine callsIn_of_wp_marks Tryz.func72 rfl trivial ?_ rfl
  simp only [Tryz.ntmps72, List.size_toArray, List.length_cons, List.length_nil, Nat.reduceAdd, Nat.reduceSub, Array.replicate_succ, Array.replicate_zero, List.push_toArray, List.append_toArray, List.nil_append, List.cons_append]
  gi_wp2_with fail
  refine ⟨trivial, (callsIn_wide.2 HM.out).mono ?_⟩
  rintro e wx ⟨rfl, rfl⟩
  gi_wp2_with fail
  refine ⟨trivial, (callsIn_wide.2 HN.out).mono ?_⟩
  rintro e wx ⟨rfl, rfl⟩
  gi_wp2_with fail
  refine ⟨trivial, (callsIn_wide.2 HS.out).mono ?_⟩
  rintro e wx ⟨rfl, hwx⟩
  have HW := Lib.hid hwx
  clear hwx
  gi_wp2_with fail
  obtain ⟨hsz, hB, z0, z1, z2, z3, z4, z5⟩ := six_boxes w _ _ _ _ _ _ _ _ _ _ _ _ wx HW.out
  clear HW HM HN HS
  obtain ⟨i0, hi0, hz0, hz1, hz2⟩ := info_parts info_int
  refine wpIn_rangeFunc_box (encs := fun y : List UInt8 => #[.string ⟨y.toArray⟩]) rfl (by omega) (gf := 152) (lb := #[.pointer (some ⟨w.heap.size + 1 + 1 + 1 + 1, 0, none⟩), .pointer (some ⟨w.heap.size + 1 + 1 + 1, 0, none⟩), .pointer (some ⟨w.heap.size + 1 + 1 + 1 + 1 + 1, 0, none⟩)]) rfl trivial (enters_of Tryz.func152 (by kernel_rfl) rfl)
    (splitSeq_box 4 (by omega) (w.heap.size + 1 + 1 + 1) x wx z3 z4 z5 (by omega)) (by omega) (fun _ => rfl)
    (ByI w.heap.size w) (ByIx w.heap.size w) (by rw [hsz]; exact byI_own _ _) (fun c => by rw [hsz]; exact byIx_own _ _ c)
    ⟨⟨by omega, fun y hy => (by cases hy), z0, z1⟩, ⟨_, z2, World.ownsRow_nil _ _ _ _⟩, hB⟩
    (fun y => { tmps := #[.pointer (some ⟨R, 0, none⟩), undef, .pointer (some ⟨w.heap.size, 0, none⟩), .pointer (some ⟨w.heap.size + 1, 0, none⟩), .pointer (some ⟨w.heap.size + 1 + 1, 0, none⟩), .string ⟨y.toArray⟩, undef, undef, undef, .pointer (some ⟨R, 0, none⟩), .bool true, .bool false, .pointer (some ⟨R, 0, none⟩), .string ⟨x.toArray⟩, .func (.func 152) #[] #[.pointer (some ⟨w.heap.size + 1 + 1 + 1 + 1, 0, none⟩), .pointer (some ⟨w.heap.size + 1 + 1 + 1, 0, none⟩), .pointer (some ⟨w.heap.size + 1 + 1 + 1 + 1 + 1, 0, none⟩)], .string ⟨y.toArray⟩, undef, undef, undef, undef, undef, undef, undef, undef, undef, undef, undef, undef, undef, undef, undef, undef, undef, undef, undef, undef, undef, undef, undef, undef, undef], defers := [] }) ?assign ?body ?done ?stop
  case assign =>
    intro l y W K hK
    gi_wp2_with fail
    exact hK
  case body =>
    rintro l pre y W ⟨⟨hszW, hk, b0, b1⟩, ⟨v, bl, hrow⟩, hBW⟩ hpre
    have hL := Blk.new W 9 (fdL.map strV).toArray
    have HI := Lib.hid (index_any fdL y W.heap.size 5 5 (W.alloc (.cells (fdL.map strV).toArray 9)) (fun j hj => word_cell hL hj) (by decide) (by decide))
    rw [show fdL.take 5 = fdL from rfl] at HI
    have HF := Lib.hid (fd_any W)
    have HK := Lib.hid hk
    have HROW := Lib.hid (hrow.alloc (.cells (fdL.map strV).toArray 9))
    have HBW := Lib.hid (hBW.alloc (by omega) (.cells (fdL.map strV).toArray 9))
    have HKO := Lib.hid (KeepsOthers.alloc W (.cells (fdL.map strV).toArray 9))
    have hs2 : w.heap.size + 6 ≤ (W.alloc (.cells (fdL.map strV).toArray 9)).heap.size := by simp only [World.size_alloc]; omega
    have HKP := Lib.hid (kp_grown (Bs := w.heap.size + 1 + 1 + 1) (World.grownBy_alloc W (.cells (fdL.map strV).toArray 9) none) (by omega) (fun r e => (by cases e)))
    have hpl : pre.length ≤ 2001 := by
      have h1 := hpre.length_le
      have h2 := plSum_len (piecesL 44 x)
      have h3 := pieces_sum 44 x
      simp only [List.length_append, List.length_singleton] at h1
      omega
    have g0 := b0.alloc (.cells (fdL.map strV).toArray 9)
    have g1 := b1.alloc (.cells (fdL.map strV).toArray 9)
    have gl := bl.alloc (.cells (fdL.map strV).toArray 9)
    clear hL hk hrow hBW hpre HR z0 z1 z2 z3 z4 z5 hB
    obtain ⟨iy, hiy⟩ : ∃ iy, idxW fdL y = iy := ⟨_, rfl⟩
    have HIY := Lib.hid hiy
    rw [hiy] at HI
    clear hiy b0 b1 bl
    have c0 := g0.cell
    have c1 := g1.cell
    have f0 := g0.frozen
    have f1 := g1.frozen
    have cl := gl.cell
    by_cases hi : iy < 0
    · have HX := Lib.hid hi
      have k1 : decide (iy < 0) = true := by rw [decide_eq_true_eq]; exact hi
      clear hi
      gi_wp2_with fail
      refine ⟨trivial, (callsIn_wide.2 HF.out).mono ?_⟩
      rintro e w1 ⟨rfl, hw1⟩
      rw [← hw1] at HI c0 c1 f0 f1 g0 g1 gl HROW HBW HKO hs2
      clear hw1
      gi_wp2_with fail
      refine ⟨trivial, (callsIn_wide.2 HI.out).mono ?_⟩
      rintro e w2 ⟨rfl, rfl⟩
      gi_wp2_with fail
      refine ⟨((HKO.out.trans (KeepsOthers.setCell _ _ _)).trans (KeepsOthers.setCell _ _ _)).from _, rfl, ?_, ⟨y, by simp, by rw [HIY.out]; exact HX.out⟩, ?_, ?_, ?_⟩
      · rw [World.size_setCell, World.size_setCell]; exact hs2
      · exact (g0.set _).kept (grownBy_setCell' _ _ _) (by intro e; injection e; omega)
      · exact (g1.kept (grownBy_setCell' _ _ _) (by intro e; injection e; omega)).set _
      · exact (HBW.out.setCell (p := ⟨w.heap.size, 0, none⟩) (Nat.le_refl _) _).setCell (p := ⟨w.heap.size + 1, 0, none⟩) (by simp only []; omega) _
    · have HX := Lib.hid hi
      have k1 : decide (iy < 0) = false := by rw [decide_eq_false_iff_not]; exact hi
      clear hi
      gi_wp2_with fail
      refine ⟨trivial, (callsIn_wide.2 HF.out).mono ?_⟩
      rintro e w1 ⟨rfl, hw1⟩
      rw [← hw1] at HI c0 c1 f0 f1 g0 g1 gl HROW HBW HKO hs2 cl HKP
      clear hw1
      gi_wp2_with fail
      refine ⟨trivial, (callsIn_wide.2 HI.out).mono ?_⟩
      rintro e w2 ⟨rfl, rfl⟩
      gi_wp2_with (gi_at_builtin; refine wpListIn_append_own _ rfl _ _ 23 rfl (w.heap.size + 6) 3 i0 (.int .i64 0) 1 8 Tryz.underlying23 hi0 hz0 hz1 hz2 rfl (by decide) _ _ _ rfl (HROW.out.alloc _) ⟨w2.heap.size, 0, none⟩ 1 1 [.int .i64 iy] rfl rfl (cell_one_new _ _ _) (by simp [Value.oneCell']) (by simp only [maxLen]; omega) (by omega) (by simp only [World.size_alloc]; omega) ?_; intro v' w3 hown' hgrow _; obtain ⟨g', cap', rfl⟩ := ownsRow_succ hown'; obtain ⟨hv1, hv2, hr2, hk2, hb2⟩ := boxed_app (n₀ := w.heap.size) gl (by decide) HROW.out (by omega) (by omega) (by omega) hown' hgrow; have hc1 := hv1.cell; have hf1 := hv1.frozen)
      have hgr : (w2.alloc (.cells #[.int .i64 iy] 3)).grownBy w3 v.ownBlock := hgrow
      have hne : ∀ k, k < w.heap.size + 6 → some k ≠ v.ownBlock := fun k hk e => by have := own_base HROW.out k e.symm; omega
      have hs3 : w.heap.size + 6 ≤ w3.heap.size := by have := hgr.size; simp only [World.size_alloc] at this; omega
      refine ⟨(HKO.out.trans hk2).from _, ?_, ⟨⟨?_, ?_, ?_, ?_⟩, ⟨_, hv2, ?_⟩, HBW.out.trans hb2⟩⟩
      · refine ((HKP.out.trans (kp_grown (World.grownBy_alloc w2 (.cells #[.int .i64 iy] 3) none) (by omega) (fun r e => (by cases e)))).trans (kp_grown hgr (by simp only [World.size_alloc]; omega) (fun r e => .inr ?_))).trans (kp_grown (grownBy_setCell' w3 _ _) (by omega) (fun r e => .inl (by injection e; omega)))
        have := own_base HROW.out r e
        omega
      · rw [World.size_setCell]; exact hs3
      · intro z hz
        rw [List.mem_append, List.mem_singleton] at hz
        rcases hz with hz | rfl
        · exact HK.out z hz
        · rw [HIY.out]; have := HX.out; omega
      · exact ((g0.alloc _).kept hgr (hne _ (by omega))).kept (grownBy_setCell' _ _ _) (by intro e; injection e; omega)
      · exact ((g1.alloc _).kept hgr (hne _ (by omega))).kept (grownBy_setCell' _ _ _) (by intro e; injection e; omega)
      · have e1 : (List.map (idxW fdL) (pre ++ [y])).map intV = List.map intV (List.map (idxW fdL) pre) ++ [.int .i64 iy] := by
          rw [List.map_append, List.map_append, ← HIY.out]; rfl
        rw [e1, List.length_append]
        exact hr2
  case done =>
    rintro D W hD ⟨⟨hs, hk, b0, b1⟩, ⟨v, bl, hrow⟩, hBW⟩ hK
    have hR := HR.out.below hBW
    have hBR : byR x = if dupB (byN x) = true then .error 9 else .ok (byN x) := byR_known (fun y hy => by have := hk y hy; omega)
    have hpos : 0 < (piecesL 44 x).length := by
      rcases Nat.eq_zero_or_pos (piecesL 44 x).length with h | h
      · exact absurd (List.eq_nil_of_length_eq_zero h) (piecesL_ne 44 x)
      · exact h
    have hlen : (piecesL 44 x).length ≤ 2001 := by
      have h2 := plSum_len (piecesL 44 x)
      have h3 := pieces_sum 44 x
      omega
    obtain ⟨g, cap, hv, hgb, hglt⟩ := hrow.form hpos
    subst hv
    have hLn : (byN x).length = (piecesL 44 x).length := by unfold byN; rw [List.length_map]
    change W.ownsRow (w.heap.size + 6) _ 1 _ _ ((byN x).map intV) at hrow
    rw [← hLn] at hrow hpos hlen
    rw [← hLn] at bl
    clear hk hLn z0 z1 z2 z3 z4 z5 hB
    generalize byN x = L at *
    have hcs : ∀ j, j < L.length → W.cell? ⟨g, 0 + j, none⟩ = some (.int .i64 (L.getD j 0)) := fun j hj => by
      have := hrow.cells (g := g) rfl j (intV (L.getD j 0)) (by rw [List.getElem?_map, List.getElem?_eq_getElem hj]; simp [List.getD, hj])
      have e : (⟨g, 0, none⟩ : Addr).add j = ⟨g, 0 + j, none⟩ := by unfold Addr.add; split <;> simp_all
      rwa [e] at this
    have HCS := Lib.hid hcs
    have HBR := Lib.hid hBR
    have HK := Lib.hid hK
    have HRW := Lib.hid hR
    have HROW := Lib.hid hrow
    have HBW := Lib.hid hBW
    clear hcs hBR hK hR hrow hBW
    have cl := bl.cell
    gi_wp2_with fail
    gi_loopw [27] (fun i wr => wr = W ∧ ∃ k : Nat, k ≤ L.length ∧ i = .int .i64 (k : Int) ∧ ∀ j, j < k → (L.take j).contains (L.getD j 0) = false) (fun i _ => L.length - (intOf i).toNat)
    case atStart => exact ⟨rfl, 0, Nat.zero_le _, rfl, fun j h => by omega⟩
    case round =>
      obtain ⟨rfl, k, hkl, rfl, hd⟩ := hrel
      have HD := Lib.hid hd
      clear hd
      by_cases hlt : k < L.length
      · have k1 : decide ((k : Int) < (L.length : Int)) = true := by rw [decide_eq_true_eq]; omega
        have k2 : decide (k < L.length) = true := by rw [decide_eq_true_eq]; omega
        have b2 : (k : Int) < (L.length : Int) := by omega
        have hck := HCS.out k hlt
        rw [Nat.zero_add] at hck
        have hcap : L.length ≤ cap := by
          rcases HROW.out.2 with ⟨e, _⟩ | ⟨g2, cap2, cur, e, _, _, h3, _⟩
          · cases e
          · injection e with _ _ e; subst e; exact h3
        have HC := Lib.hid (Tryz.slices_Contains_int g 0 k cap L (L.getD k 0) wr (by omega) (by omega) HCS.out)
        have HD1 : Hid ((L.take k).contains (L.getD k 0) = false → ∀ j, j < k + 1 → (L.take j).contains (L.getD j 0) = false) := fun h j hj => by
          by_cases e : j = k
          · rw [e]; exact h
          · exact HD.out j (by omega)
        have HD2 : Hid ((L.take k).contains (L.getD k 0) = true → dupB L = true) := fun h => dupB_yes hlt h
        generalize (L.take k).contains (L.getD k 0) = bq at *
        generalize L.getD k 0 = z at *
        cases bq with
        | false =>
          have HD3 := Lib.hid (HD1.out rfl)
          clear HD1 HD2 HD
          gi_wp2_with fail
          refine ⟨trivial, (callsIn_wide.2 HC.out).mono ?_⟩
          rintro e w2 ⟨rfl, hw2⟩
          have HW2 := Lib.hid hw2
          clear hw2
          gi_wp2_with fail
          go_roundw
          case rel => exact ⟨HW2.out, k + 1, by omega, by go_num, HD3.out⟩
          case measure => simp [intOf]; omega
        | true =>
          have HD3 := Lib.hid (HD2.out rfl)
          clear HD1 HD2 HD
          have c0 := b0.cell
          have f0 := b0.frozen
          have c1 := b1.cell
          have f1 := b1.frozen
          have g0 := ((b0.set (.slice none 0 0)).kept (grownBy_setCell' _ (w.heap.size + 1) (.int .i64 9)) (by intro e; injection e; omega)).kept (grownBy_putObj' _ D (.deferred none)) (by intro e; injection e; omega)
          have g1 := ((b1.kept (grownBy_setCell' _ w.heap.size (.slice none 0 0)) (by intro e; injection e; omega)).set (.int .i64 9)).kept (grownBy_putObj' _ D (.deferred none)) (by intro e; injection e; omega)
          have hb := ((HBW.out.setCell (p := ⟨w.heap.size, 0, none⟩) (Nat.le_refl _) (.slice none 0 0)).setCell (p := ⟨w.heap.size + 1, 0, none⟩) (by simp only []; omega) (.int .i64 9))
          have hsz2 : ((wr.setCell ⟨w.heap.size, 0, none⟩ (.slice none 0 0)).setCell ⟨w.heap.size + 1, 0, none⟩ (.int .i64 9)).heap.size = wr.heap.size := by rw [World.size_setCell, World.size_setCell]
          have hK2 : ((wr.setCell ⟨w.heap.size, 0, none⟩ (.slice none 0 0)).setCell ⟨w.heap.size + 1, 0, none⟩ (.int .i64 9)).heap[D]? = some (.deferred (some [])) :=
            (Below.heap_setCell _ _ _ D (by simp only []; omega)).trans ((Below.heap_setCell wr _ _ D (by simp only []; omega)).trans HK.out)
          have HK2 := Lib.hid hK2
          have HRF := Lib.hid ((HR.out.below hb).low (below_put (B := B) (D := D) (by omega) (by omega) (.deferred none)))
          have HGF := Lib.hid (grown_put (grown_of_below hb (some R)) (D := D) (by omega) (.deferred none))
          have z0 := g0.cell
          have z1 := g1.cell
          clear hb hK2 g0 g1 hsz2
          gi_wp2_with fail
          refine ⟨trivial, (callsIn_wide.2 HC.out).mono ?_⟩
          rintro e w2 ⟨rfl, rfl⟩
          gi_wp2_with fail
          refine ⟨by simp, .inl ⟨_, _, rfl, run_takeDeferred HK2.out, ?_⟩⟩
          refine ⟨.tuple #[.slice none 0 0, .int .i64 9], ?_, ?_⟩
          · simp [results, Tryz.results72, go_sem, z0, z1]
          · unfold BySays
            rw [HBR.out, if_pos HD3.out]
            exact ⟨rfl, HRF.out, HGF.out⟩
      · have k1 : decide ((k : Int) < (L.length : Int)) = false := by rw [decide_eq_false_iff_not]; omega
        have k2 : decide (k < L.length) = false := by rw [decide_eq_false_iff_not]; omega
        obtain rfl : k = L.length := by omega
        have HDU := Lib.hid (dupB_no HD.out)
        have HT := Lib.hid (take_any x ws p ps len B R wr HRW.out)
        clear HD
        gi_wp2_with fail
        refine ⟨trivial, (callsIn_wide.2 HT.out).mono ?_⟩
        rintro e w4 ⟨⟨u, rfl⟩, hr4, hg4⟩
        have b04 := b0.kept hg4 (by intro e; injection e; omega)
        have b14 := b1.kept hg4 (by intro e; injection e; omega)
        have bl4 := bl.kept hg4 (by intro e; injection e; omega)
        have hrow4 := HROW.out.kept hg4 (.inr (by intro e; simp only [Value.ownBlock] at e; injection e; omega))
        have hDl : D < wr.heap.size := (Array.getElem?_eq_some_iff.1 HK.out).1
        have hK4 := (hg4.block D hDl (by intro e; injection e; omega)).trans HK.out
        have hs4 : w.heap.size + 6 ≤ w4.heap.size := Nat.le_trans hs hg4.size
        have hgw4 := World.grownBy.trans (grown_of_below HBW.out (some R)) hg4
        have c0 := b04.cell
        have f0 := b04.frozen
        have c1 := b14.cell
        have f1 := b14.frozen
        have cl4 := bl4.cell
        obtain ⟨vl, hvl⟩ : ∃ vl, Value.slice (some ⟨g, 0, none⟩) L.length cap = vl := ⟨_, rfl⟩
        have HVL := Lib.hid hvl
        have g0 := ((b04.set (.slice (some ⟨g, 0, none⟩) L.length cap)).kept (grownBy_setCell' _ (w.heap.size + 1) (.int .i64 0)) (by intro e; injection e; omega)).kept (grownBy_putObj' _ D (.deferred none)) (by intro e; injection e; omega)
        have g1 := ((b14.kept (grownBy_setCell' _ w.heap.size (.slice (some ⟨g, 0, none⟩) L.length cap)) (by intro e; injection e; omega)).set (.int .i64 0)).kept (grownBy_putObj' _ D (.deferred none)) (by intro e; injection e; omega)
        have hK5 : ((w4.setCell ⟨w.heap.size, 0, none⟩ (.slice (some ⟨g, 0, none⟩) L.length cap)).setCell ⟨w.heap.size + 1, 0, none⟩ (.int .i64 0)).heap[D]? = some (.deferred (some [])) :=
          (Below.heap_setCell _ _ _ D (by simp only []; omega)).trans ((Below.heap_setCell w4 _ _ D (by simp only []; omega)).trans hK4)
        have HK5 := Lib.hid hK5
        have hr5 := (hr4.low (((Below.refl B w4).setCell (p := ⟨w.heap.size, 0, none⟩) hBw (.slice (some ⟨g, 0, none⟩) L.length cap)).setCell (p := ⟨w.heap.size + 1, 0, none⟩) (by simp only []; omega) (.int .i64 0)))
        have HRF := Lib.hid (hr5.low (below_put (B := B) (D := D) (by omega) (by rw [World.size_setCell, World.size_setCell]; omega) (.deferred none)))
        have HGF := Lib.hid (grown_put (grown_new (grown_new hgw4 (g := w.heap.size) (Nat.le_refl _) 0 (.slice (some ⟨g, 0, none⟩) L.length cap)) (g := w.heap.size + 1) (by omega) 0 (.int .i64 0)) (D := D) (by omega) (.deferred none))
        have hrow5 := ((hrow4.kept (grownBy_setCell' w4 w.heap.size (.slice (some ⟨g, 0, none⟩) L.length cap)) (.inr (by intro e; simp only [Value.ownBlock] at e; injection e; omega))).kept (grownBy_setCell' _ (w.heap.size + 1) (.int .i64 0)) (.inr (by intro e; simp only [Value.ownBlock] at e; injection e; omega)))
        have HO := Lib.hid (own_low (ownsRow_putObj hrow5 (.deferred none) hK5 rfl) (b' := w.heap.size) (by omega))
        have z0 := g0.cell
        have z1 := g1.cell
        clear hr5 hrow5 hK5 g0 g1 hr4 hg4 b04 b14 bl4 hrow4 hK4 hgw4 HVL hvl
        gi_wp2_with fail
        refine ⟨by simp, .inl ⟨_, _, rfl, run_takeDeferred HK5.out, ?_⟩⟩
        refine ⟨.tuple #[.slice (some ⟨g, 0, none⟩) L.length cap, .int .i64 0], ?_, ?_⟩
        · simp [results, Tryz.results72, go_sem, z0, z1]
        · unfold BySays
          rw [HBR.out, if_neg (by rw [HDU.out]; simp)]
          exact ⟨_, rfl, HO.out, HRF.out, HGF.out⟩
  case stop =>
    rintro D c pre W hD hpre ⟨rfl, hs, ⟨y, hy, hyn⟩, b0, b1, hBW⟩ hK
    have hBR : byR x = .error 17 := byR_unknown ⟨y, hpre.subset hy, hyn⟩
    have hR := HR.out.below hBW
    have c0 := (b0.kept (grownBy_putObj' W D (.deferred none)) (by intro e; injection e; omega)).cell
    have c1 := (b1.kept (grownBy_putObj' W D (.deferred none)) (by intro e; injection e; omega)).cell
    have HRF := Lib.hid (hR.low (below_put (B := B) (D := D) (by omega) (by omega) (.deferred none)))
    have HGF := Lib.hid (grown_put (grown_of_below hBW (some R)) (D := D) (by omega) (.deferred none))
    have HBR := Lib.hid hBR
    have HK := Lib.hid hK
    clear hBR hR hBW hK hy hyn
    gi_wp2_with fail
    refine ⟨by simp, .inl ⟨_, _, rfl, run_takeDeferred HK.out, ?_⟩⟩
    refine ⟨.tuple #[.slice none 0 0, .int .i64 17], ?_, ?_⟩
    · simp [results, Tryz.results72, go_sem, c0, c1]
    · unfold BySays
      rw [HBR.out]
      exact ⟨rfl, HRF.out, HGF.out⟩
end Go.Proofs.YtfnlddloalineaaGreatDoor
namespace Go.Proofs.YtfnlddloalineaaGreatDoor
open Go.RowKit
set_option linter.unusedVariables false
theorem env_grown {w w' : World} {R : Nat} (h : Env w) (hg : w.grownBy w' (some R)) (hR : NG ≤ R) : Env w' :=
  h.of_heap (Nat.le_trans h.size hg.size) fun k hk => hg.block k (by have := h.size; omega) (fun e => by injection e; omega)
theorem enve_grown {w w' : World} {R : Nat} (h : EnvE w) (hE : Env w) (hg : w.grownBy w' (some R)) (hR : NG ≤ R) : EnvE w' :=
  h.of_heap fun k hk => hg.block k (by have := hE.size; omega) (fun e => by injection e; omega)
theorem cndR_nil : cndR [] = .error ([], 3) := rfl
theorem cndR_unk {x : Wd} {ws : List Wd} (hx : idxW fdL x < 0) : cndR (x :: ws) = .error (x :: ws, 17) := by
  rw [cndR.eq_def]; exact if_pos hx
theorem cndR_one {x : Wd} (hx : ¬ idxW fdL x < 0) : cndR [x] = .error ([], 3) := by
  rw [cndR.eq_def]; exact if_neg hx
theorem cndR_op {x o : Wd} {vs : List Wd} (hx : ¬ idxW fdL x < 0) (ho : idxW (opL.take (opN (idxW fdL x))) o < 0) : cndR (x :: o :: vs) = .error (o :: vs, 3) := by
  rw [cndR.eq_def]; show (if idxW fdL x < 0 then _ else _) = _; rw [if_neg hx]
  exact if_pos ho
theorem cndR_two {x o : Wd} (hx : ¬ idxW fdL x < 0) (ho : ¬ idxW (opL.take (opN (idxW fdL x))) o < 0) : cndR [x, o] = .error ([], 3) := by
  rw [cndR, if_neg hx]
  exact if_neg ho
theorem cndR_ok {x o v : Wd} {r : List Wd} (hx : ¬ idxW fdL x < 0) (ho : ¬ idxW (opL.take (opN (idxW fdL x))) o < 0) (hv : (valO (idxW fdL x) v).2 = 0) :
    cndR (x :: o :: v :: r) = .ok (⟨idxW fdL x, idxW (opL.take (opN (idxW fdL x))) o, (valO (idxW fdL x) v).1⟩, r) := by
  rw [cndR, if_neg hx]
  exact (if_neg ho).trans (if_pos hv)
theorem cndR_bad {x o v : Wd} {r : List Wd} (hx : ¬ idxW fdL x < 0) (ho : ¬ idxW (opL.take (opN (idxW fdL x))) o < 0) (hv : ¬ (valO (idxW fdL x) v).2 = 0) :
    cndR (x :: o :: v :: r) = .error (v :: r, (valO (idxW fdL x) v).2) := by
  rw [cndR, if_neg hx]
  exact (if_neg ho).trans (if_neg hv)
theorem cndR_err {ws r : List Wd} {E : Int} (h : cndR ws = .error (r, E)) : E ≠ 0 := by
  cases ws with
  | nil => rw [cndR_nil] at h; injection h with h; injection h with _ h; omega
  | cons x ws =>
    by_cases hx : idxW fdL x < 0
    · rw [cndR_unk hx] at h; injection h with h; injection h with _ h; omega
    · cases ws with
      | nil => rw [cndR_one hx] at h; injection h with h; injection h with _ h; omega
      | cons o vs =>
        by_cases ho : idxW (opL.take (opN (idxW fdL x))) o < 0
        · rw [cndR_op hx ho] at h; injection h with h; injection h with _ h; omega
        · cases vs with
          | nil => rw [cndR_two hx ho] at h; injection h with h; injection h with _ h; omega
          | cons v r =>
            by_cases hv : (valO (idxW fdL x) v).2 = 0
            · rw [cndR_ok hx ho hv] at h; cases h
            · rw [cndR_bad hx ho hv] at h; injection h with h; injection h with _ h; omega
def CndAny (B R : Nat) (ws : List Wd) (ps : List Int) (len : Int) (w : World) (e : Ending) (w' : World) : Prop := match cndR ws with
  | .error (r, E) => (∃ a b c : Int, e = .returned (.tuple #[.agg #[.int .i64 a, .int .i64 b, .int .i64 c], .int .i64 E])) ∧ Rdr w' B R r (ps.drop (ws.length - r.length)) len ∧ w.grownBy w' (some R)
  | .ok (c, r) => e = .returned (.tuple #[.agg #[.int .i64 c.f, .int .i64 c.o, .int .i64 c.v], .int .i64 0]) ∧ Rdr w' B R r (ps.drop (ws.length - r.length)) len ∧ w.grownBy w' (some R)
theorem rdr_ps {w : World} {B R : Nat} {x : Wd} {ws : List Wd} {ps : List Int} {len : Int} (h : Rdr w B R (x :: ws) ps len) : ∃ p ps', ps = p :: ps' := by
  obtain ⟨_, _, _, _, _, _, _, h3, _⟩ := h
  cases ps with
  | nil => simp at h3
  | cons p ps' => exact ⟨p, ps', rfl⟩
theorem rdr_len {w : World} {B R : Nat} {ws : List Wd} {ps : List Int} {len : Int} (h : Rdr w B R ws ps len) : ps.length = ws.length := by
  obtain ⟨_, _, _, _, _, _, _, h3, _⟩ := h
  exact h3
theorem cond_any (ws : List Wd) (ps : List Int) (len : Int) (B R : Nat) (w : World) (hE : Env w) (hEE : EnvE w) (hR : NG ≤ R) (hl : ∀ x, x ∈ ws → x.length ≤ 2000) (h : Rdr w B R ws ps len) :
    Calls Tryz.prog 74 #[.pointer (some ⟨R, 0, none⟩)] w (CndAny B R ws ps len w) := by
  cases ws with
  | nil =>
    refine (cond_none ps len B R w h).mono ?_
    rintro e w' ⟨h1, h2, h3⟩
    unfold CndAny
    rw [cndR_nil]
    exact ⟨h1, by simpa using h2, h3⟩
  | cons x ws =>
    obtain ⟨p, ps, rfl⟩ := rdr_ps h
    by_cases hx : idxW fdL x < 0
    · refine (cond_unknown x ws (p :: ps) len B R w h hx).mono ?_
      rintro e w' ⟨h1, h2, h3⟩
      unfold CndAny
      rw [cndR_unk hx]
      exact ⟨h1, by simpa using h2, h3⟩
    · cases ws with
      | nil =>
        have hp : ps = [] := List.eq_nil_of_length_eq_zero (by simpa using rdr_len h)
        subst hp
        refine (cond_op_fell x [] p [] len B R 3 w h (by decide) hx (fun w1 G hr _ => name_none [] len B R w1 _ 3 hr)).mono ?_
        rintro e w' ⟨h1, h2, h3⟩
        unfold CndAny
        rw [cndR_one hx]
        exact ⟨h1, by simpa using h2, h3⟩
      | cons o vs =>
        obtain ⟨p2, ps, rfl⟩ : ∃ p2 ps', ps = p2 :: ps' := by
          have := rdr_len h
          cases ps with
          | nil => simp at this
          | cons p2 ps' => exact ⟨p2, ps', rfl⟩
        by_cases ho : idxW (opL.take (opN (idxW fdL x))) o < 0
        · refine (cond_op_fell x (o :: vs) p (p2 :: ps) len B R 3 w h (by decide) hx (fun w1 G hr hc => name_bad o vs (p2 :: ps) len B R w1 opL G (opN (idxW fdL x)) 6 3 hr hc (by unfold opN; split <;> decide) (by decide) ho)).mono ?_
          rintro e w' ⟨h1, h2, h3⟩
          unfold CndAny
          rw [cndR_op hx ho]
          exact ⟨h1, by simpa using h2, h3⟩
        · cases vs with
          | nil =>
            have hp : ps = [] := List.eq_nil_of_length_eq_zero (by simpa using rdr_len h)
            subst hp
            refine (cond_val x o [] [] p p2 [] [] len B R 0 3 w h hx ho (fun w1 hr hg => (value_none _ [] len B R w1 hr).mono fun e w' h => h)).mono ?_
            rintro e w' ⟨h1, h2, h3⟩
            unfold CndAny
            rw [cndR_two hx ho]
            exact ⟨⟨_, _, _, h1⟩, by simpa using h2, h3⟩
          | cons v r =>
            obtain ⟨p3, ps, rfl⟩ : ∃ p3 ps', ps = p3 :: ps' := by
              have := rdr_len h
              cases ps with
              | nil => simp at this
              | cons p3 ps' => exact ⟨p3, ps', rfl⟩
            have hval : ∀ w1 : World, Rdr w1 B R (v :: r) (p3 :: ps) len → w.grownBy w1 (some R) → Calls Tryz.prog 101 #[.pointer (some ⟨R, 0, none⟩), .int .i64 (idxW fdL x)] w1 (ValAny B R v r p3 ps len (valO (idxW fdL x) v) w1) := fun w1 hr hg =>
              value_some (idxW fdL x) v r p3 ps len B R w1 (env_grown hE hg hR) (enve_grown hEE hE hg hR) (hl v (by simp)) hr
            by_cases hv : (valO (idxW fdL x) v).2 = 0
            · refine (cond_val x o (v :: r) r p p2 (p3 :: ps) ps len B R (valO (idxW fdL x) v).1 0 w h hx ho (fun w1 hr hg => (hval w1 hr hg).mono fun e w' h => ?_)).mono ?_
              · rcases h with ⟨_, h1, h2, h3⟩ | ⟨hn, _⟩
                · refine ⟨?_, h2, h3⟩
                  rw [h1]; unfold twoV; rw [hv]
                · exact absurd hv hn
              · rintro e w' ⟨h1, h2, h3⟩
                unfold CndAny
                rw [cndR_ok hx ho hv]
                refine ⟨h1, ?_, h3⟩
                have e1 : (x :: o :: v :: r).length - r.length = 3 := by simp only [List.length_cons]; omega
                rw [e1]; exact h2
            · refine (cond_val x o (v :: r) (v :: r) p p2 (p3 :: ps) (p3 :: ps) len B R (valO (idxW fdL x) v).1 (valO (idxW fdL x) v).2 w h hx ho (fun w1 hr hg => (hval w1 hr hg).mono fun e w' h => ?_)).mono ?_
              · rcases h with ⟨hn, _⟩ | ⟨_, h1, h2, h3⟩
                · exact absurd hn hv
                · exact ⟨h1, h2, h3⟩
              · rintro e w' ⟨h1, h2, h3⟩
                unfold CndAny
                rw [cndR_bad hx ho hv]
                refine ⟨⟨_, _, _, h1⟩, ?_, h3⟩
                have e1 : (x :: o :: v :: r).length - (v :: r).length = 2 := by simp only [List.length_cons]; omega
                rw [e1]; exact h2
end Go.Proofs.YtfnlddloalineaaGreatDoor
namespace Go.Proofs.YtfnlddloalineaaGreatDoor
open Go.RowKit
set_option linter.unusedVariables false
theorem cndR_ok_suf {ws r : List Wd} {c : SCond} (h : cndR ws = .ok (c, r)) : ∃ a, ws = a ++ r ∧ a.length = 3 := by
  cases ws with
  | nil => cases h
  | cons x ws =>
    by_cases hx : idxW fdL x < 0
    · rw [cndR_unk hx] at h; cases h
    · cases ws with
      | nil => rw [cndR_one hx] at h; cases h
      | cons o vs =>
        by_cases ho : idxW (opL.take (opN (idxW fdL x))) o < 0
        · rw [cndR_op hx ho] at h; cases h
        · cases vs with
          | nil => rw [cndR_two hx ho] at h; cases h
          | cons v r' =>
            by_cases hv : (valO (idxW fdL x) v).2 = 0
            · rw [cndR_ok hx ho hv] at h
              injection h with h
              injection h with _ h
              exact ⟨[x, o, v], by rw [← h]; rfl, rfl⟩
            · rw [cndR_bad hx ho hv] at h; cases h
theorem cndR_err_suf {ws r : List Wd} {E : Int} (h : cndR ws = .error (r, E)) : ∃ a, ws = a ++ r := by
  cases ws with
  | nil => rw [cndR_nil] at h; injection h with h; injection h with h _; exact ⟨[], by rw [← h]; rfl⟩
  | cons x ws =>
    by_cases hx : idxW fdL x < 0
    · rw [cndR_unk hx] at h; injection h with h; injection h with h _; exact ⟨[], by rw [← h]; rfl⟩
    · cases ws with
      | nil => rw [cndR_one hx] at h; injection h with h; injection h with h _; exact ⟨[x], by rw [← h]; rfl⟩
      | cons o vs =>
        by_cases ho : idxW (opL.take (opN (idxW fdL x))) o < 0
        · rw [cndR_op hx ho] at h; injection h with h; injection h with h _; exact ⟨[x], by rw [← h]; rfl⟩
        · cases vs with
          | nil => rw [cndR_two hx ho] at h; injection h with h; injection h with h _; exact ⟨[x, o], by rw [← h]; rfl⟩
          | cons v r' =>
            by_cases hv : (valO (idxW fdL x) v).2 = 0
            · rw [cndR_ok hx ho hv] at h; cases h
            · rw [cndR_bad hx ho hv] at h; injection h with h; injection h with h _; exact ⟨[x, o], by rw [← h]; rfl⟩
theorem whR_full {acc : List SCond} {ws : List Wd} (h : ws ≠ []) : whR 0 acc ws = .error (ws, 6) := by
  unfold whR; rw [if_neg h]
theorem whR_err {n : Nat} {acc : List SCond} {ws : List Wd} {p : List Wd × Int} (hc : cndR ws = .error p) (hn : 0 < n ∨ ws = []) : whR n acc ws = .error p := by
  cases n with
  | zero =>
    rcases hn with h | h
    · omega
    · subst h
      rw [cndR_nil] at hc
      injection hc with hc
      rw [← hc]; rfl
  | succ n => rw [whR, hc]
theorem whR_end {n : Nat} {acc : List SCond} {ws : List Wd} {c : SCond} (hc : cndR ws = .ok (c, [])) : whR (n + 1) acc ws = .ok (acc ++ [c]) := by
  rw [whR, hc]
theorem whR_and {n : Nat} {acc : List SCond} {ws r : List Wd} {c : SCond} (hc : cndR ws = .ok (c, andW :: r)) : whR (n + 1) acc ws = whR n (acc ++ [c]) r := by
  rw [whR, hc]; exact if_pos rfl
theorem whR_bad {n : Nat} {acc : List SCond} {ws r : List Wd} {c : SCond} {y : Wd} (hc : cndR ws = .ok (c, y :: r)) (hy : y ≠ andW) : whR (n + 1) acc ws = .error (y :: r, 3) := by
  rw [whR, hc]; exact if_neg hy
theorem tailR_where {verb : Int} {by_ : List Int} {r : List Wd} : tailR verb by_ (whereW :: r) = (match whR 20 [] r with | .error p => .error p | .ok cs => .ok ⟨verb, by_, cs⟩) := by
  unfold tailR; exact if_pos rfl
theorem tailR_bad {verb : Int} {by_ : List Int} {x : Wd} {r : List Wd} (h : x ≠ whereW) : tailR verb by_ (x :: r) = .error (x :: r, 3) := by
  unfold tailR; exact if_neg h
theorem qryR_verb {v : Wd} {ws : List Wd} (h : idxW vbL v < 0) : qryR (v :: ws) = .error (v :: ws, 3) := by
  rw [qryR.eq_def]; exact if_pos h
theorem qryR_one {v : Wd} (h : ¬ idxW vbL v < 0) : qryR [v] = tailR (idxW vbL v) [] [] := by
  rw [qryR.eq_def]; exact if_neg h
theorem qryR_plain {v b : Wd} {ws : List Wd} (h : ¬ idxW vbL v < 0) (hb : b ≠ byW) : qryR (v :: b :: ws) = tailR (idxW vbL v) [] (b :: ws) := by
  rw [qryR.eq_def]; exact (if_neg h).trans (if_neg hb)
theorem qryR_by0 {v : Wd} (h : ¬ idxW vbL v < 0) : qryR [v, byW] = .error ([], 3) := by
  rw [qryR.eq_def]; exact (if_neg h).trans (if_pos rfl)
theorem qryR_by {v f : Wd} {ws : List Wd} (h : ¬ idxW vbL v < 0) : qryR (v :: byW :: f :: ws) = (match byR f with | .error e => .error (f :: ws, e) | .ok l => tailR (idxW vbL v) l ws) := by
  rw [qryR.eq_def]; exact (if_neg h).trans (if_pos rfl)
theorem byR_err {f : Wd} {E : Int} (h : byR f = .error E) : E ≠ 0 := by
  unfold byR at h
  split at h
  · injection h; omega
  · split at h
    · injection h; omega
    · cases h
theorem byR_len {f : Wd} {l : List Int} (h : byR f = .ok l) : l.length ≤ f.length + 1 := by
  unfold byR at h
  split at h
  · cases h
  · split at h
    · cases h
    · injection h with h
      rw [← h]
      unfold byN
      rw [List.length_map]
      have h2 := plSum_len (piecesL 44 f)
      have h3 := pieces_sum 44 f
      omega
/-- conditions, as cells -/
def cndC (l : List SCond) : List Value := l.flatMap fun c => [.int .i64 c.f, .int .i64 c.o, .int .i64 c.v]
theorem cndC_app (l : List SCond) (c : SCond) : cndC (l ++ [c]) = cndC l ++ [.int .i64 c.f, .int .i64 c.o, .int .i64 c.v] := by
  unfold cndC
  rw [List.flatMap_append]; rfl
/-- the state between two steps: the reader, the result's block, the query's block, its two slices -/
structure QSt (w : World) (B R : Nat) (rs : List Wd) (ps : List Int) (len verb : Int) (byl : List Int) (byv : Value) (whl : List SCond) (whv : Value) (x : World) : Prop where
  rdr : Rdr x B R rs ps len
  res : Blk x w.heap.size 26 #[.int .i64 0, .slice none 0 0, .slice none 0 0]
  qry : Blk x (w.heap.size + 1) 26 #[.int .i64 verb, byv, whv]
  byo : x.ownsRow (w.heap.size + 1 + 1) 3 1 byv byl.length (byl.map intV)
  who : x.ownsRow (w.heap.size + 1 + 1) 95 3 whv whl.length (cndC whl)
  grown : w.grownBy x (some R)
  low : R < w.heap.size
  lowB : B ≤ w.heap.size
theorem QSt.size {w x : World} {B R : Nat} {rs : List Wd} {ps : List Int} {len verb : Int} {byl : List Int} {byv : Value} {whl : List SCond} {whv : Value} (h : QSt w B R rs ps len verb byl byv whl whv x) : w.heap.size + 1 + 1 ≤ x.heap.size := h.qry.lt
theorem QSt.turn {w x y : World} {B R : Nat} {rs rs' : List Wd} {ps ps' : List Int} {len verb : Int} {byl : List Int} {byv : Value} {whl : List SCond} {whv : Value} (h : QSt w B R rs ps len verb byl byv whl whv x) (hr : Rdr y B R rs' ps' len) (hg : x.grownBy y (some R)) : QSt w B R rs' ps' len verb byl byv whl whv y where
  rdr := hr
  res := h.res.grown hg (by intro e; injection e; have := h.low; omega)
  qry := h.qry.grown hg (by intro e; injection e; have := h.low; omega)
  byo := h.byo.kept hg (.inr (by intro e; have := own_base h.byo R e; have := h.low; omega))
  who := h.who.kept hg (.inr (by intro e; have := own_base h.who R e; have := h.low; omega))
  grown := World.grownBy.trans h.grown hg
  low := h.low
  lowB := h.lowB
theorem QSt.same {w x y : World} {B R : Nat} {rs : List Wd} {ps : List Int} {len verb : Int} {byl : List Int} {byv : Value} {whl : List SCond} {whv : Value} (h : QSt w B R rs ps len verb byl byv whl whv x) (hb : Below x.heap.size x y) : QSt w B R rs ps len verb byl byv whl whv y :=
  h.turn (h.rdr.below hb) (grown_of_below hb (some R))
/-- what stands when the query's cells have been laid into the result's -/
theorem QSt.fin {w x : World} {B R : Nat} {rs : List Wd} {ps : List Int} {len verb : Int} {byl : List Int} {byv : Value} {whl : List SCond} {whv : Value} (h : QSt w B R rs ps len verb byl byv whl whv x) :
    ∀ y, y = ((x.setCell ⟨w.heap.size, 0, none⟩ (.int .i64 verb)).setCell ⟨w.heap.size, 1, none⟩ byv).setCell ⟨w.heap.size, 2, none⟩ whv →
      Rdr y B R rs ps len ∧ Blk y w.heap.size 26 #[.int .i64 verb, byv, whv] ∧ y.ownsRow w.heap.size 3 1 byv byl.length (byl.map intV) ∧ y.ownsRow w.heap.size 95 3 whv whl.length (cndC whl) ∧ w.grownBy y (some R) := by
  rintro y rfl
  have hn1 : ∀ {e : TypeId} {size n : Nat} {v : Value} {xs : List Value} {z : World}, z.ownsRow (w.heap.size + 1 + 1) e size v n xs → ∀ (j : Nat) (u : Value), (z.setCell ⟨w.heap.size, j, none⟩ u).ownsRow (w.heap.size + 1 + 1) e size v n xs := fun ho j u =>
    ownsRow_setCell_other ho (a := ⟨w.heap.size, j, none⟩) (by intro e; have := own_base ho _ e; simp only [] at this; omega) u
  have hb := (((Below.refl B x).setCell (p := ⟨w.heap.size, 0, none⟩) h.lowB (.int .i64 verb)).setCell (p := ⟨w.heap.size, 1, none⟩) h.lowB byv).setCell (p := ⟨w.heap.size, 2, none⟩) h.lowB whv
  exact ⟨h.rdr.low hb, set3 h.res, own_low (hn1 (hn1 (hn1 h.byo _ _) _ _) _ _) (by omega), own_low (hn1 (hn1 (hn1 h.who _ _) _ _) _ _) (by omega), grown_new (grown_new (grown_new h.grown (Nat.le_refl _) _ _) (Nat.le_refl _) _ _) (Nat.le_refl _) _ _⟩
/-- how query ends -/
def QrySays (B R : Nat) (ws : List Wd) (ps : List Int) (len : Int) (w : World) (e : Ending) (w' : World) : Prop := match qryR ws with
  | .error (r, E) => (∃ a A n c A' n' c', e = .returned (.tuple #[.agg #[.int .i64 a, .slice A n c, .slice A' n' c'], .int .i64 E])) ∧ Rdr w' B R r (ps.drop (ws.length - r.length)) len ∧ w.grownBy w' (some R)
  | .ok q => ∃ vb vw, e = .returned (.tuple #[.agg #[.int .i64 q.verb, vb, vw], .int .i64 0]) ∧ w'.ownsRow w.heap.size 3 1 vb q.by_.length (q.by_.map intV) ∧ w'.ownsRow w.heap.size 95 3 vw q.wh.length (cndC q.wh) ∧ w.grownBy w' (some R)
/-- words are left of others: their places -/
def Suf (ws : List Wd) (ps : List Int) (rs : List Wd) (qs : List Int) : Prop := (∃ a, ws = a ++ rs) ∧ qs = ps.drop (ws.length - rs.length)
theorem Suf.refl (ws : List Wd) (ps : List Int) : Suf ws ps ws ps := ⟨⟨[], rfl⟩, by simp⟩
theorem Suf.step {ws rs : List Wd} {ps qs : List Int} {x : Wd} {q : Int} (h : Suf ws ps (x :: rs) (q :: qs)) : Suf ws ps rs qs := by
  obtain ⟨⟨a, rfl⟩, h2⟩ := h
  refine ⟨⟨a ++ [x], by simp⟩, ?_⟩
  have e1 : (a ++ x :: rs).length - (x :: rs).length = a.length := by simp
  have e2 : (a ++ x :: rs).length - rs.length = a.length + 1 := by simp only [List.length_append, List.length_cons]; omega
  rw [e1] at h2
  rw [e2, ← List.tail_drop, ← h2]; rfl
theorem Suf.far {ws rs r : List Wd} {ps qs : List Int} (h : Suf ws ps rs qs) (hr : ∃ a, rs = a ++ r) : Suf ws ps r (qs.drop (rs.length - r.length)) := by
  obtain ⟨⟨a, rfl⟩, h2⟩ := h
  obtain ⟨b, rfl⟩ := hr
  refine ⟨⟨a ++ b, by simp⟩, ?_⟩
  rw [h2, List.drop_drop]
  congr 1
  simp only [List.length_append]
  omega
theorem Suf.mem {ws rs : List Wd} {ps qs : List Int} (h : Suf ws ps rs qs) {x : Wd} (hx : x ∈ rs) : x ∈ ws := by
  obtain ⟨⟨a, rfl⟩, _⟩ := h
  exact List.mem_append_right _ hx
theorem Suf.len {ws rs : List Wd} {ps qs : List Int} (h : Suf ws ps rs qs) : rs.length ≤ ws.length := by
  obtain ⟨⟨a, rfl⟩, _⟩ := h
  simp
theorem Suf.plen {ws rs : List Wd} {ps qs : List Int} (h : Suf ws ps rs qs) (hp : ps.length = ws.length) : qs.length = rs.length := by
  have := h.len
  rw [h.2, List.length_drop]
  omega
end Go.Proofs.YtfnlddloalineaaGreatDoor
namespace Go.Proofs.YtfnlddloalineaaGreatDoor
open Go.RowKit
set_option linter.unusedVariables false
set_option maxRecDepth 100000
def qZ : Array Value := #[.int .i64 0, .slice none 0 0, .slice none 0 0]
/-- the start: two blocks for the query, one for the verbs -/
theorem qst_start {w : World} {B R : Nat} {ws : List Wd} {ps : List Int} {len : Int} (h : Rdr w B R ws ps len) : QSt w B R ws ps len 0 [] (.slice none 0 0) [] (.slice none 0 0) ((w.alloc (.cells #[.int .i64 0, .slice none 0 0, .slice none 0 0] 26)).alloc (.cells #[.int .i64 0, .slice none 0 0, .slice none 0 0] 26)) := by
  have hRw : R < w.heap.size ∧ B ≤ w.heap.size := by obtain ⟨_, _, _, _, hk, _, _, _, _, _, _, h7⟩ := h; exact ⟨hk.lt, h7⟩
  have hb : Below w.heap.size w ((w.alloc (.cells #[.int .i64 0, .slice none 0 0, .slice none 0 0] 26)).alloc (.cells #[.int .i64 0, .slice none 0 0, .slice none 0 0] 26)) := ((Below.refl w.heap.size w).alloc (Nat.le_refl _) _).alloc (by simp) _
  have h2 := Blk.new (w.alloc (.cells #[.int .i64 0, .slice none 0 0, .slice none 0 0] 26)) 26 #[.int .i64 0, .slice none 0 0, .slice none 0 0]
  rw [World.size_alloc] at h2
  exact ⟨h.below hb, (Blk.new w _ _).alloc _, h2, World.ownsRow_nil _ _ _ _, World.ownsRow_nil _ _ _ _, grown_of_below hb _, hRw.1, hRw.2⟩
theorem QSt.setVerb {w x : World} {B R : Nat} {rs : List Wd} {ps : List Int} {len verb : Int} {byl : List Int} {byv : Value} {whl : List SCond} {whv : Value} (h : QSt w B R rs ps len verb byl byv whl whv x) (v' : Int) : QSt w B R rs ps len v' byl byv whl whv (x.setCell ⟨w.heap.size + 1, 0, none⟩ (.int .i64 v')) where
  rdr := h.rdr.low ((Below.refl B x).setCell (p := ⟨w.heap.size + 1, 0, none⟩) (by have := h.lowB; simp only []; omega) _)
  res := h.res.far (p := ⟨w.heap.size + 1, 0, none⟩) (by simp) _
  qry := by have := h.qry.set_ 0 (.int .i64 v'); simpa using this
  byo := ownsRow_setCell_other h.byo (a := ⟨w.heap.size + 1, 0, none⟩) (by intro e; have := own_base h.byo _ e; simp only [] at this; omega) _
  who := ownsRow_setCell_other h.who (a := ⟨w.heap.size + 1, 0, none⟩) (by intro e; have := own_base h.who _ e; simp only [] at this; omega) _
  grown := grown_new h.grown (by omega) _ _
  low := h.low
  lowB := h.lowB
theorem grown_row {w x y : World} {R : Nat} {row : Option Nat} (h : w.grownBy x (some R)) (hg : x.grownBy y row) (hr : ∀ r, row = some r → w.heap.size ≤ r) : w.grownBy y (some R) :=
  ⟨hg.os.trans h.os, hg.tape.trans h.tape, hg.output.trans h.output, Nat.le_trans h.size hg.size, fun i hi hne => (hg.block i (Nat.lt_of_lt_of_le hi h.size) (fun e => by have := hr i e.symm; omega)).trans (h.block i hi hne)⟩
theorem own_own_ne {w : World} {b b' : Nat} {e e' : TypeId} {s s' n n' : Nat} {v v' : Value} {xs xs' : List Value} (h : w.ownsRow b e s v n xs) (h' : w.ownsRow b' e' s' v' n' xs') (hne : e ≠ e') : v.ownBlock = none ∨ v.ownBlock ≠ v'.ownBlock := by
  rcases h.2 with ⟨rfl, _⟩ | ⟨g, cap, cur, rfl, _, hg, _⟩
  · exact .inl rfl
  · refine .inr fun he => ?_
    rcases h'.2 with ⟨rfl, _⟩ | ⟨g', cap', cur', rfl, _, hg', _⟩
    · simp [Value.ownBlock] at he
    · have : g = g' := by simpa [Value.ownBlock] using he
      subst this
      rw [hg] at hg'
      injection hg' with hg'
      injection hg' with _ ht
      exact hne ht
/-- a condition is appended, and the slice laid into the query's block -/
theorem QSt.push {w x y : World} {B R : Nat} {rs : List Wd} {ps : List Int} {len verb : Int} {byl : List Int} {byv : Value} {whl : List SCond} {whv v' : Value} {o : Obj} {f op c : Int} (h : QSt w B R rs ps len verb byl byv whl whv x)
    (hg : (x.alloc o).grownBy y whv.ownBlock) (hown : y.ownsRow (w.heap.size + 1 + 1) 95 3 v' (whl.length + 1) (cndC whl ++ [.int .i64 f, .int .i64 op, .int .i64 c])) :
    Blk y (w.heap.size + 1) 26 #[.int .i64 verb, byv, whv] ∧ QSt w B R rs ps len verb byl byv (whl ++ [⟨f, op, c⟩]) v' (y.setCell ⟨w.heap.size + 1, 2, none⟩ v') := by
  have hs1 := h.size
  have hrow : ∀ r, whv.ownBlock = some r → w.heap.size + 1 + 1 ≤ r := fun r e => own_base h.who r e
  have h1 := h.same ((Below.refl x.heap.size x).alloc (Nat.le_refl _) o)
  have hr : Rdr y B R rs ps len := h1.rdr.low ((Below.refl B (x.alloc o)).grown hg (by have := h.lowB; simp only [World.size_alloc]; omega) (fun r e => by have := hrow r e; have := h.lowB; omega))
  have hq : Blk y (w.heap.size + 1) 26 #[.int .i64 verb, byv, whv] := h1.qry.grown hg (fun e => by have := hrow _ e.symm; omega)
  have hres : Blk y w.heap.size 26 #[.int .i64 0, .slice none 0 0, .slice none 0 0] := h1.res.grown hg (fun e => by have := hrow _ e.symm; omega)
  have hby : y.ownsRow (w.heap.size + 1 + 1) 3 1 byv byl.length (byl.map intV) := h1.byo.kept hg (own_own_ne h1.byo h1.who (by decide))
  refine ⟨hq, ?_⟩
  exact {
    rdr := hr.low ((Below.refl B y).setCell (p := ⟨w.heap.size + 1, 2, none⟩) (by have := h.lowB; simp only []; omega) _)
    res := hres.far (p := ⟨w.heap.size + 1, 2, none⟩) (by simp) _
    qry := by have := hq.set_ 2 v'; simpa using this
    byo := ownsRow_setCell_other hby (a := ⟨w.heap.size + 1, 2, none⟩) (by intro e; have := own_base hby _ e; simp only [] at this; omega) _
    who := by
      have := ownsRow_setCell_other hown (a := ⟨w.heap.size + 1, 2, none⟩) (by intro e; have := own_base hown _ e; simp only [] at this; omega) v'
      rw [List.length_append, cndC_app]
      exact this
    grown := grown_new (grown_row h1.grown hg (fun r e => by have := hrow r e; omega)) (by omega) _ _
    low := h.low
    lowB := h.lowB }
set_option maxHeartbeats 2000000 in
theorem qry_fell (ws : List Wd) (ps : List Int) (len : Int) (B R : Nat) (E : Int) (w : World) (h : Rdr w B R ws ps len) (hE : (E != 0) = true)
    (hnm : ∀ (w1 : World) (G : Nat), Rdr w1 B R ws ps len → (∀ j, j < vbL.length → w1.cell? ⟨G, j, none⟩ = some (.string ⟨(vbL.getD j []).toArray⟩)) →
      Calls Tryz.prog 70 #[.pointer (some ⟨R, 0, none⟩), .slice (some ⟨G, 0, none⟩) 2 2, .int .i64 3] w1 fun e w' => e = .returned (.tuple #[.int .i64 0, .int .i64 E]) ∧ w1 = w') :
    Calls Tryz.prog 33 #[.pointer (some ⟨R, 0, none⟩)] w fun e w' => (∃ a A n c A' n' c', e = .returned (.tuple #[.agg #[.int .i64 a, .slice A n c, .slice A' n' c'], .int .i64 E])) ∧ Rdr w' B R ws ps len ∧ w.grownBy w' (some R) := by
  have hs := qst_start h
  obtain ⟨W, hW⟩ : ∃ W, (w.alloc (.cells #[.int .i64 0, .slice none 0 0, .slice none 0 0] 26)).alloc (.cells #[.int .i64 0, .slice none 0 0, .slice none 0 0] 26) = W := ⟨_, rfl⟩
  rw [hW] at hs
  have hs1 := hs.same ((Below.refl W.heap.size W).alloc (Nat.le_refl _) (.cells (vbL.map strV).toArray 9))
  have HN := Lib.hid (hnm _ W.heap.size hs1.rdr (fun j hj => word_cell (Blk.new W 9 (vbL.map strV).toArray) hj))
  have HV := Lib.hid (vb_any W)
  have HS1 := Lib.hid hs1
  clear hs hs1 hnm h
  go_enter Tryz.func33, Tryz.ntmps33
  go_wp2_with fail
  refine HV.out.mono ?_
  rintro e w1 ⟨rfl, hw1⟩
  rw [← hw1] at HS1 HN
  clear hw1 HV hW
  obtain ⟨x0, x1, x2⟩ := rd_cells HS1.out.qry
  have fx := HS1.out.qry.frozen
  have HS2 := Lib.hid (HS1.out.setVerb 0)
  go_wp2_with fail
  refine HN.out.mono ?_
  rintro e wx ⟨rfl, rfl⟩
  clear HN
  obtain ⟨r0, r1, r2⟩ := rd_cells HS2.out.res
  have fr := HS2.out.res.frozen
  obtain ⟨y0, y1, y2⟩ := rd_cells HS2.out.qry
  go_wp2_with fail
  obtain ⟨hr, hk, _, _, hg⟩ := HS2.out.fin _ rfl
  obtain ⟨z0, z1, z2⟩ := rd_cells hk
  refine bodyPost_ret (v := .tuple #[.agg #[.int .i64 0, .slice none 0 0, .slice none 0 0], .int .i64 E]) ?_ rfl ⟨⟨_, _, _, _, _, _, _, rfl⟩, hr, hg⟩
  simp [results, Tryz.results33, go_sem, z0, z1, z2]
end Go.Proofs.YtfnlddloalineaaGreatDoor
