/-
  A builder of the call's own with its text: written, read; what else lies in memory stays.
-/
import Derived.Test.YtcmmppkmkejniaaGreatDoorBld2
import Derived.Test.YtcmmppkmkejniaaGreatDoorBlSt
import Derived.Lib.OthersKept
namespace Go.Proofs.YtcmmppkmkejniaaGreatDoor
open Go.RowKit
set_option linter.unusedVariables false
def Bst (b : Nat) (T : List UInt8) (w : World) : Prop := Lib.IsBuilderF 79 5 b b (Lib.byteCells T) w
def Kpt (b : Nat) (w w' : World) : Prop := Lib.OthersKept 5 (some b) w w'
theorem Bst.below {b : Nat} {T : List UInt8} {w w' : World} (h : Bst b T w) (hb : Below w.heap.size w w') : Bst b T w' := by
  have key : ∀ p, Lib.BuilderAtF 79 5 b b p (Lib.byteCells T) w → Lib.BuilderAtF 79 5 b b p (Lib.byteCells T) w' := by
    intro p hp
    have hl := hp.lt
    obtain ⟨h1, v, h2, h3, h4⟩ := hp
    exact ⟨h1, v, (hb.block b hl).trans h2, h3.kept (row := none) (grown_of_below hb none) (by cases v.ownBlock <;> simp), h4⟩
  exact h.imp (key _) (key _)
theorem Bst.drew {b : Nat} {T : List UInt8} {w : World} (h : Bst b T w) : Bst b T w.drew := h
theorem Bst.fresh (w : World) : Bst w.heap.size [] (w.alloc (.cells #[.pointer none, .slice none 0 0] 79)) := Lib.IsBuilderF.of (Lib.fresh_isBuilder _ _ _)
theorem Bst.at_ {b : Nat} {T : List UInt8} {w : World} {p : Value} {cs : List Value} (h : Lib.BuilderAtF 79 5 b b (.pointer (some ⟨b, 0, none⟩)) cs w) (e : cs = Lib.byteCells T) : Bst b T w := by
  subst e; exact Or.inr h
theorem blk_kpt {b g : Nat} {t : TypeId} {cs : Array Value} {w w' : World} (h : Blk w g t cs) (hk : Kpt b w w') (hg : g ≠ b) (ht : t ≠ 5) : Blk w' g t cs :=
  hk g _ h (fun e => hg (by injection e)) (fun c fz e => ht (by injection e))
theorem bst_write (b : Nat) (T s : List UInt8) (w : World) (h : Bst b T w) (hl : T.length + s.length ≤ 140737488355328) (hb : b ≤ w.heap.size) :
    Calls Tryz.prog 30 #[.pointer (some ⟨b, 0, none⟩), .string ⟨s.toArray⟩] w fun e w' => e = .returned (.tuple #[.int .i64 s.length, .nilIface]) ∧ Bst b (T ++ s) w' ∧ Below b w w' ∧ Kpt b w w' := by
  refine (Any.Builder_WriteString_k bldLays166 bldExtra b b (Lib.byteCells T) ⟨s.toArray⟩ w h (by rw [Lib.byteCells_length, mk_size]; exact hl) hb).mono ?_
  rintro e w' ⟨rfl, h1, h2, h3⟩
  exact ⟨by rw [mk_size], Bst.at_ (p := .nilIface) h1 (by rw [Lib.byteCells_append, Lib.strCells_eq]), h2, h3⟩
theorem bst_byte (b : Nat) (T : List UInt8) (c : UInt8) (n : Int) (hn : n = c.toNat) (w : World) (h : Bst b T w) (hl : T.length + 1 ≤ 140737488355328) (hb : b ≤ w.heap.size) :
    Calls Tryz.prog 56 #[.pointer (some ⟨b, 0, none⟩), .int .u8 n] w fun e w' => e = .returned .nilIface ∧ Bst b (T ++ [c]) w' ∧ Below b w w' ∧ Kpt b w w' := by
  subst hn
  refine (Any.Builder_WriteByte_k bldLays167 bldExtra2 b b (Lib.byteCells T) _ w h (by rw [Lib.byteCells_length]; exact hl) hb).mono ?_
  rintro e w' ⟨rfl, h1, h2, h3⟩
  exact ⟨rfl, Bst.at_ (p := .nilIface) h1 (by rw [Lib.byteCells_append]; rfl), h2, h3⟩
theorem bst_string (b : Nat) (T : List UInt8) (w : World) (h : Bst b T w) (hb : b ≤ w.heap.size) :
    Calls Tryz.prog 32 #[.pointer (some ⟨b, 0, none⟩)] w fun e w' => e = .returned (.string ⟨T.toArray⟩) ∧ Below b w w' := by
  refine (Any.Builder_String_any_f bldLays169 bldExtra b b T w h hb).mono ?_
  rintro e w' ⟨rfl, _, h2⟩
  exact ⟨rfl, h2⟩
/-- a builder b that the call made at the world w1, and a block g of its own -/
def TxS (w1 : World) (b g : Nat) (t : TypeId) (cs : Array Value) (T : List UInt8) (w : World) : Prop := Blk w g t cs ∧ Bst b T w ∧ Below b w1 w ∧ b < g
section
variable {w1 w w' : World} {b g : Nat} {t : TypeId} {cs : Array Value} {T T' : List UInt8}
theorem TxS.step (h : TxS w1 b g t cs T w) (hb : Below w.heap.size w w') (hbs : b ≤ w.heap.size) : TxS w1 b g t cs T w' :=
  ⟨h.1.below hb h.1.lt, h.2.1.below hb, h.2.2.1.trans (hb.mono hbs), h.2.2.2⟩
theorem TxS.drew (h : TxS w1 b g t cs T w) : TxS w1 b g t cs T w.drew := ⟨h.1.drew, h.2.1.drew, h.2.2.1.drew, h.2.2.2⟩
theorem TxS.size (h : TxS w1 b g t cs T w) : b ≤ w.heap.size := by have := h.1.lt; have := h.2.2.2; omega
theorem TxS.go (h : TxS w1 b g t cs T w) (hb : Below w.heap.size w w') : TxS w1 b g t cs T w' := h.step hb h.size
theorem TxS.wrote (h : TxS w1 b g t cs T w) (h1 : Bst b T' w') (h2 : Below b w w') (h3 : Kpt b w w') (ht : t ≠ 5) : TxS w1 b g t cs T' w' :=
  ⟨blk_kpt h.1 h3 (by have := h.2.2.2; omega) ht, h1, h.2.2.1.trans h2, h.2.2.2⟩
end
end Go.Proofs.YtcmmppkmkejniaaGreatDoor
