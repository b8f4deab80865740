/-
  Small words for this seat's walks: what the world holds ('Env'), 'Below' behind the library's contracts, and the last step of a law's row.
-/
import Derived.Test.YtcmmppkmkejniaaGreatDoorProg
import Derived.WalkKit
import Derived.ProofKit
import Derived.OpenShut
import Derived.Lib.LaidTab
import Derived.Lib.Hide
import Derived.Sort.Grow
import Derived.Deep.Draws
import Derived.Stop.LaidErr
import Derived.Lib.ItoaNum
import Derived.Below
import Derived.ChangeSame
import Derived.Shelf.Vars
namespace Go.Proofs.YtcmmppkmkejniaaGreatDoor
open Go.RowKit Go.WideShapes Go.ChangeShapes

theorem bcell {W w1 : World} (hb : Below W.heap.size W w1) : (∀ b o, b < W.heap.size → w1.cell? ⟨b, o, none⟩ = W.cell? ⟨b, o, none⟩) ∧ (∀ b o, b < W.heap.size → w1.frozen? ⟨b, o, none⟩ = W.frozen? ⟨b, o, none⟩) :=
  ⟨fun b o h => hb.cell (p := ⟨b, o, none⟩) h, fun b o h => hb.frozen (p := ⟨b, o, none⟩) h⟩
theorem below_drewN {B : Nat} {a w : World} (h : Below B a w) (n : Nat) : Below B a (w.drewN n) := ⟨h.os, h.tape, h.output, h.size, h.block⟩
theorem below_grow (w : World) (os : Array Obj) : Below w.heap.size w (Sort.grow w os) :=
  ⟨rfl, rfl, rfl, by simp, fun k hk => Sort.heap_grow_old w os hk⟩
theorem below_itoa {w w' : World} (h : ∃ k os, w' = Sort.grow (w.drewN k) os) : Below w.heap.size w w' := by
  obtain ⟨k, os, rfl⟩ := h
  exact (below_drewN (Below.refl _ w) k).trans (below_grow (w.drewN k) os)
theorem below_draws {w w' : World} (h : ∃ k, w' = w.drewN k) : Below w.heap.size w w' := by
  obtain ⟨k, rfl⟩ := h
  exact below_drewN (Below.refl _ w) k
theorem below_two {a b c : World} (h : Below a.heap.size a b) (k : Below b.heap.size b c) : Below a.heap.size a c := h.trans (k.mono h.size)

/-- so many package-level variables -/
def NG : Nat := 6
/-- WHAT THE PACKAGE-LEVEL VARIABLES HOLD. -/
structure Env (w : World) : Prop where
  size : NG ≤ w.heap.size
  tab : Lib.TabIs Tryz.prog w "internal/strconv.uint64pow10" .u64 Lib.pow10Tab
  maxlen : ∃ m, w.cell? ⟨1, 0, none⟩ = some (.int .i64 m)

theorem var_of_heap {w w' : World} {n : String} {g : Nat} {cs : Array Value} (hg : Tryz.prog.globalNamed n = some g) (hh : w'.heap[g]? = w.heap[g]?) (h : w.var? Tryz.prog n = some cs) : w'.var? Tryz.prog n = some cs := by
  unfold World.var? at h ⊢
  rw [hg] at h ⊢
  simpa [hh] using h
theorem gPow : Tryz.prog.globalNamed "internal/strconv.uint64pow10" = some 0 := by kernel_rfl
theorem Env.of_heap {w w' : World} (h : Env w) (hs : NG ≤ w'.heap.size) (hh : ∀ k, k < NG → w'.heap[k]? = w.heap[k]?) : Env w' where
  size := hs
  tab := var_of_heap gPow (hh _ (by decide)) h.tab
  maxlen := by obtain ⟨m, hm⟩ := h.maxlen; exact ⟨m, (World.cell?_of_block (w := w) (w' := w') (a := ⟨1, 0, none⟩) (hh _ (by decide))).trans hm⟩
theorem Env.below {w w' : World} (h : Env w) {B : Nat} (hb : Below B w w') (hB : NG ≤ B) : Env w' :=
  h.of_heap (Nat.le_trans h.size hb.size) fun k hk => hb.block k (by omega)
theorem Env.drew {w : World} (h : Env w) : Env w.drew := h.of_heap h.size fun _ _ => rfl
theorem Env.drewN {w : World} (h : Env w) (n : Nat) : Env (w.drewN n) := h.of_heap h.size fun _ _ => rfl
theorem Env.after {w w' : World} (h : Env w) (hb : Below w.heap.size w w') : Env w' := h.below hb h.size

/-- the row's last step: nothing that was there has turned, and the result is true -/
theorem post_of_below {H : Type} {enc : TypeId × Value → H} {P : Program} {f : Func} {s : ChangeSpec} {apart fresh handsOn again : Bool} {W W' : World} {args : Array Value} {v : Value} {ds gs : List (DataW H)} {before pa pv : List MemPlace}
    (hW : DataW.Whole enc P f.params.toList s.vars apart W args.toList ds gs before)
    (hres : ∀ (b : Nat) (sp : Nat → Bool) (hd : Bool), DataW.TrodAll enc P W' b sp hd f.resultTypes.toList (v.resultList f.resultTypes.size) (s.fn H (ds ++ gs)).results [])
    (hargs : ∀ sp : Nat → Bool, (∀ p ∈ before, sp p.block = true) → DataW.TrodAll enc P W' 0 sp true f.params.toList args.toList (s.fn H (ds ++ gs)).args pa)
    (hvars : ∀ sp : Nat → Bool, (∀ p ∈ before, sp p.block = true) → DataW.TrodVars enc P W' sp s.vars (s.fn H (ds ++ gs)).vars pv)
    (hps : before = pa ++ pv) (hb : Below W.heap.size W W')
    (hok : ∀ (j : Nat) (t : TypeId) (r : Value), f.resultTypes[j]? = some t → (v.resultList f.resultTypes.size)[j]? = some r → Value.okWide P W' .any 0 t r) :
    s.post enc P f apart fresh handsOn again W args v W' := by
  have hlt : ∀ p ∈ before, p.block < W.heap.size := fun p hp => hW.lt p hp
  have hold : ∀ p ∈ before, (fun b => decide (b < W.heap.size)) p.block = true := fun p hp => by simpa using hlt p hp
  refine ⟨ds, gs, before, [], pa, pv, hW, hres _ _ _, hargs _ hold, hvars _ hold, World.keptBut_mono (fun p hp => ⟨hp, ?_⟩) (hb.frame (· ∈ before)), fun _ => ?_⟩
  · rw [hps, List.mem_append] at hp
    exact Or.inr hp
  · obtain ⟨_, _, _, _, _, hz, hn⟩ := hW
    refine ⟨hok, _, _, ([] ++ pa) ++ pv, ⟨[] ++ pa, pv, trodAll_append (hargs _ (fun _ _ => rfl)) (hres _ _ _), hvars _ (fun _ _ => rfl), rfl, ?_, ?_⟩, ?_⟩
    · intro b off hp
      have hin : MemPlace.cell b off ∈ before := by rw [hps]; simpa using hp
      rw [hb.frozen (hlt _ hin)]
      exact hz b off hin
    · intro ha
      have := hn ha
      rw [hps] at this
      simpa using this
    · intro p hp _
      rw [hps]
      simpa using hp

/-- every argument reads behind the call as it read ahead of it -/
theorem trodAll_stays {H : Type} {enc : TypeId × Value → H} {P : Program} (hl : laidOutB P = true) {W W' : World} {sp : Nat → Bool} :
    ∀ {ts : List TypeId} {vs : List Value} {ds : List (DataW H)} {ps : List MemPlace}, (∀ t ∈ ts, P.readableRec t = true ∧ t < P.types.size) →
      DataW.TrodAll enc P W 0 (fun _ => true) true ts vs ds ps → (∀ x ∈ ps, W.sameAt W' x) → (∀ x ∈ ps, sp x.block = true) → DataW.TrodAll enc P W' 0 sp true ts vs ds ps := by
  intro ts
  induction ts with
  | nil =>
    intro vs ds ps _ h _ _
    obtain ⟨rfl, rfl, rfl⟩ := trodAll_nil h
    exact trodAll_mk0
  | cons t ts ih =>
    intro vs ds ps hr h hs hp
    obtain ⟨v0, vs0, d0, ds0, p0, q0, rfl, rfl, rfl, h0, r0⟩ := trodAll_cons h
    obtain ⟨h1, h2⟩ := hr t (by simp)
    exact trodAll_cons_mk (WideElems.Trod_stays hl h1 h2 h0 (fun x hx => hs x (by simp [hx])) (fun x hx => hp x (by simp [hx])))
      (ih (fun u hu => hr u (by simp [hu])) r0 (fun x hx => hs x (by simp [hx])) (fun x hx => hp x (by simp [hx])))
/-- every package-level variable has its block -/
theorem shaped_size {W : World} (h : W.ShapedOpen Tryz.prog) : NG ≤ W.heap.size := by
  have hz : (((begin Tryz.prog (fun _ _ => 0) default).world.heap[NG - 1]?).bind Obj.row?).isSome = true := by kernel_rfl
  obtain ⟨⟨z, t⟩, hz⟩ := Option.isSome_iff_exists.1 hz
  obtain ⟨cs, hc, _⟩ := h.1 (NG - 1) z t (of_decide_eq_true (by kernel_rfl)) hz
  have : NG - 1 < W.heap.size := by
    rcases Nat.lt_or_ge (NG - 1) W.heap.size with h | h
    · exact h
    · rw [Array.getElem?_eq_none h] at hc; cases hc
  unfold NG at this ⊢
  omega
theorem maxLen_of {W : World} (h : W.ShapedOpen Tryz.prog) : ∃ m, W.cell? ⟨1, 0, none⟩ = some (.int .i64 m) :=
  Go.Proofs.cell_of_shapedOpen_int (zero := #[.int .i64 0]) (t := 3) h (of_decide_eq_true (by kernel_rfl)) (by kernel_rfl) rfl (by kernel_rfl) (by kernel_rfl) Tryz.underlying3
theorem laidOut : laidOutB Tryz.prog = true := by kernel_rfl
end Go.Proofs.YtcmmppkmkejniaaGreatDoor
