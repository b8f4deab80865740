/-
  The reference's Same at lists that are the same.
-/
import Derived.Test.YtblpgdfjmkefkaaDoorTokW11
namespace Go.Proofs.YtblpgdfjmkefkaaDoor
open Go.RowKit
set_option linter.unusedVariables false
def keyT (p : Bool) (t : Tok) : Int × List UInt8 × Int := (t.kind, t.text, if p then t.from_ else 0)
theorem key_at {a b : List Tok} {p : Bool} (h : a.map (keyT p) = b.map (keyT p)) (k : Nat) (hk : k < a.length) :
    (b.getD k ⟨0, [], 0⟩).kind = (a.getD k ⟨0, [], 0⟩).kind ∧ (b.getD k ⟨0, [], 0⟩).text = (a.getD k ⟨0, [], 0⟩).text ∧ (p = true → (b.getD k ⟨0, [], 0⟩).from_ = (a.getD k ⟨0, [], 0⟩).from_) := by
  have hl : b.length = a.length := by have := congrArg List.length h; simpa using this.symm
  have h1 : (a.map (keyT p))[k]? = (b.map (keyT p))[k]? := by rw [h]
  rw [List.getElem?_map, List.getElem?_map, List.getElem?_eq_getElem hk, List.getElem?_eq_getElem (by omega)] at h1
  simp only [Option.map_some, Option.some.injEq, keyT, Prod.mk.injEq] at h1
  simp only [List.getD, List.getElem?_eq_getElem hk, List.getElem?_eq_getElem (show k < b.length by omega), Option.getD_some]
  refine ⟨h1.1.symm, h1.2.1.symm, fun hp => ?_⟩
  have := h1.2.2
  rw [hp] at this
  simpa using this.symm
set_option maxRecDepth 100000 in
set_option maxHeartbeats 4000000 in
theorem same_yes (a b : List Tok) (p : Bool) (A A' : Option Addr) (n n' c c' B B' : Nat) (w : World) (hr : Reads w B 3 A n (tokCells a)) (hr' : Reads w B' 3 A' n' (tokCells b)) (hB : B ≤ w.heap.size) (hB' : B' ≤ w.heap.size) (hn : n ≤ 20000) (h : a.map (keyT p) = b.map (keyT p)) :
    Calls Tryd.prog 11 #[.slice A n c, .slice A' n' c', .bool p] w fun e w' => e = .returned (.bool true) ∧ Below w.heap.size w w' := by
  have hl : b.length = a.length := by have := congrArg List.length h; simpa using this.symm
  obtain rfl : n' = n := by rw [← toks_len hr, ← toks_len hr', hl]
  have HL := Lib.hid (toks_len hr)
  have HR := Lib.hid hr
  have HR' := Lib.hid hr'
  have HK := Lib.hid (fun k hk => key_at h k hk)
  clear hr hr' hl h
  go_enter Tryd.func11, Tryd.ntmps11
  go_wp2_with fail
  go_loopw [7] (fun i wr => ∃ k : Nat, k ≤ n' ∧ i = .int .i64 k ∧ Below w.heap.size w wr) (fun i _ => n' - (intOf i).toNat)
  case atStart => exact ⟨0, by omega, rfl, Below.refl _ _⟩
  case round =>
    obtain ⟨k, hk, rfl, hbr⟩ := hrel
    obtain ⟨wo, rfl⟩ : ∃ wo : World, wo = wr := ⟨_, rfl⟩
    by_cases hlt : k < n'
    · obtain ⟨ad, rfl, hbk, c0, c1, c2⟩ := (HR.out.low hB (Nat.le_refl _) hbr).tok_at hlt
      obtain ⟨ad', rfl, hbk', d0, d1, d2⟩ := (HR'.out.low hB' (Nat.le_refl _) hbr).tok_at hlt
      obtain ⟨k1, k2, k3⟩ := HK.out k (by rw [HL.out]; exact hlt)
      rw [k1] at d0
      rw [k2] at d1
      clear k1 k2
      generalize a.getD k ⟨0, [], 0⟩ = t at *
      generalize b.getD k ⟨0, [], 0⟩ = t' at *
      have x1 : (t.kind != t.kind) = false := by simp
      have x2 : (t.text != t.text) = false := by simp
      have x3 : (t.from_ != t.from_) = false := by simp
      cases p
      · clear k3
        go_wp2_with fail
        go_quiet (fail)
        go_wp2_with fail
        exact ⟨⟨k + 1, by omega, by go_num, by repeat (first | exact hbr | apply below_drewN)⟩, by simp [intOf]; omega⟩
      · rw [k3 rfl] at d2
        clear k3
        go_wp2_with fail
        go_quiet (fail)
        go_wp2_with fail
        exact ⟨⟨k + 1, by omega, by go_num, by repeat (first | exact hbr | apply below_drewN)⟩, by simp [intOf]; omega⟩
    · go_wp2_with fail
      go_ret
      exact ⟨rfl, hbr⟩
end Go.Proofs.YtblpgdfjmkefkaaDoor
