/-
  decimal.Parse.
-/
import Derived.Test.YtklpeibmjiolhaaDoorDecW7
import Derived.Test.YtklpeibmjiolhaaDoorDecPz
import Derived.Test.YtklpeibmjiolhaaDoorShelf2
import Derived.Test.YtklpeibmjiolhaaDoorShelf
import Derived.LoopTactic
import Derived.Deep.DeepCutAuto
namespace Go.Proofs.YtklpeibmjiolhaaDoor
open Go.RowKit
set_option linter.unusedVariables false
theorem trim_any (l cs : List UInt8) (w : World) (hl : l.length ≤ 9223372036854775807) (hc : cs.length < 4294967281) (ha : ∀ b ∈ cs, b.toNat < 128) :
    Calls Tryd.prog 43 #[.string ⟨l.toArray⟩, .string ⟨cs.toArray⟩] w fun e w' => e = .returned (.string ⟨(Lib.trimS l cs).toArray⟩) ∧ Below w.heap.size w w' :=
  Any.strings_Trim_laid Tryd.l (by kernel_rfl) ⟨l.toArray⟩ ⟨cs.toArray⟩ w (by rw [mk_size]; exact hl) (by rw [mk_size]; exact hc) (fun j b hj => ha b (List.mem_of_getElem? hj))
theorem digits_any (l : List UInt8) (w : World) (hl : l.length ≤ 1000) : Calls Tryd.prog 42 #[.string ⟨l.toArray⟩] w fun e w' => e = .returned (.bool (isNum l)) ∧ Below w.heap.size w w' := by
  cases he : l.isEmpty
  · have he' : (l == []) = false := by cases l <;> simp_all
    have hne : l ≠ [] := by intro h; subst h; simp at he
    have ht := trim_any l digs w (by omega) (by decide) (by decide)
    have HT := Lib.hid ht
    cases hd : l.all isDig
    · have hn : isNum l = false := by unfold isNum; rw [hd]; rfl
      have ht0 : (Lib.trimS l digs == []) = false := by
        rw [beq_eq_false_iff_ne]
        intro h
        rw [trim_digs.1 h] at hd
        cases hd
      rw [hn]
      generalize Lib.trimS l digs = t at *
      clear ht hd hn he hne
      go_enter Tryd.func42, Tryd.ntmps42
      go_wp2_with fail
      refine HT.out.mono ?_
      rintro e w1 ⟨rfl, hb⟩
      go_wp2_with fail
      go_ret
      exact ⟨rfl, hb⟩
    · have hn : isNum l = true := by unfold isNum; rw [hd, he]; rfl
      have ht0 : Lib.trimS l digs = [] := trim_digs.2 hd
      rw [hn]
      rw [ht0] at ht
      have HT := Lib.hid ht
      clear ht hd hn he hne ht0
      go_enter Tryd.func42, Tryd.ntmps42
      go_wp2_with fail
      refine HT.out.mono ?_
      rintro e w1 ⟨rfl, hb⟩
      go_wp2_with fail
      go_ret
      exact ⟨rfl, hb⟩
  · obtain rfl : l = [] := by simpa using he
    clear he
    go_enter Tryd.func42, Tryd.ntmps42
    go_wp2_with fail
    go_ret
    exact ⟨rfl, Below.refl _ _⟩
theorem cutPrefix_mk (l : List UInt8) (w : World) : Calls Tryd.prog 40 #[.string ⟨l.toArray⟩, .string ⟨#[45]⟩] w fun e w' => e = .returned (.tuple #[.string ⟨(unS l).toArray⟩, .bool (negB l)]) ∧ w = w' := by
  refine (Tryd.strings_CutPrefix ⟨l.toArray⟩ ⟨#[45]⟩ w).mono ?_
  rintro e wx ⟨rfl, rfl⟩
  have h1 : Lib.hasPrefix l [45] = negB l := hasPrefix_one l 45
  have h2 : Lib.trimPrefix l [45] = unS l := by
    unfold Lib.trimPrefix unS
    rw [h1]; rfl
  refine ⟨?_, rfl⟩
  show Ending.returned (.tuple #[.string ⟨(Lib.trimPrefix l [45]).toArray⟩, .bool (Lib.hasPrefix l [45])]) = _
  rw [h1, h2]
theorem cut_mk (l : List UInt8) (w : World) (hE : Env w) (hl : l.length ≤ 60) : Calls Tryd.prog 41 #[.string ⟨(unS l).toArray⟩, .string ⟨#[46]⟩] w fun e w' => e = .returned (.tuple #[.string ⟨(whL l).toArray⟩, .string ⟨(ptL l).toArray⟩, .bool (pnB l)]) ∧ Below w.heap.size w w' := by
  obtain ⟨m, hm⟩ := hE.maxlen
  have hu : (unS l).length ≤ 60 := by unfold unS; split <;> first | omega | (simp; omega)
  refine (Tryd.strings_Cut ⟨(unS l).toArray⟩ ⟨#[46]⟩ m w (by rw [mk_size]; omega) hm).mono ?_
  rintro e wx ⟨rfl, hw⟩
  exact ⟨rfl, below_draws hw⟩
theorem cut_lens {l : List UInt8} : (whL l).length + (ptL l).length ≤ l.length := by
  have hu : (unS l).length ≤ l.length := by unfold unS; split <;> first | omega | (simp; done)
  unfold whL ptL
  by_cases hm : (46 : UInt8) ∈ unS l
  · obtain ⟨a, b, e, hna⟩ := split_at hm
    rw [e] at hu ⊢
    rw [cut_at hna]
    simp at hu ⊢
    omega
  · rw [cut_no hm]; simpa using hu
end Go.Proofs.YtklpeibmjiolhaaDoor
