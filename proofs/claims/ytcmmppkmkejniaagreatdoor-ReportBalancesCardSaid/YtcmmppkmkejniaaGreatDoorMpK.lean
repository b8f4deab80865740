/-
  The three kinds of keys: numbers, texts, links.
-/
import Derived.Test.YtcmmppkmkejniaaGreatDoorMpB
import Derived.Test.YtcmmppkmkejniaaGreatDoorGvMem
namespace Go.Proofs.YtcmmppkmkejniaaGreatDoor
open Go.RowKit Go.ChangeMaps
open Go.Maps (Keyed int_keyed string_keyed)
set_option linter.unusedVariables false
set_option maxRecDepth 100000
theorem keyI {a : Int} (h : okI a) : ∃ lt, keyOf Tryz.prog 3 (.int .i64 a) = some lt := ⟨_, Go.Maps.keyOf_int_mk Tryz.underlying3 h⟩
theorem str_len {x : List UInt8} (h : x.length ≤ 9223372036854775807) : (⟨x.toArray⟩ : ByteArray).size ≤ maxLen := by
  have e : (⟨x.toArray⟩ : ByteArray).size = x.length := by
    show x.toArray.size = _
    rw [List.size_toArray]
  rw [e]
  unfold maxLen
  exact h
theorem keyS {x : List UInt8} (h : x.length ≤ 9223372036854775807) : ∃ lt, keyOf Tryz.prog 9 (.string ⟨x.toArray⟩) = some lt := ⟨_, Go.WideMaps.keyOf_string_mk Tryz.underlying9 (str_len h)⟩
theorem injI (a b : Int) (h : Value.int .i64 a = .int .i64 b) : a = b := by injection h
theorem injS (a b : List UInt8) (h : Value.string ⟨a.toArray⟩ = .string ⟨b.toArray⟩) : a = b := by
  injection h with h
  injection h with h
  simpa using congrArg Array.toList h
theorem lawI : Keyed Tryz.prog 3 := int_keyed Tryz.underlying3
theorem lawS : Keyed Tryz.prog 9 := string_keyed Tryz.underlying9
def MI : MK Int := ⟨132, 3, fun x => .int .i64 x, okI, Tryz.underlying132, lawI, injI, fun _ h => keyI h⟩
def MS : MK (List UInt8) := ⟨114, 9, fun x => .string ⟨x.toArray⟩, fun x => x.length ≤ 9223372036854775807, Tryz.underlying114, lawS, injS, fun _ h => keyS h⟩
theorem wideL : (match Tryz.prog.underlying 99 with | some (.array _ _) | some (.struct _) => true | _ => false) = true := by rw [Tryz.underlying99]
theorem rowL : (99 : TypeId) < Tryz.prog.types.size := of_decide_eq_true (by kernel_rfl)
theorem lawL : Keyed Tryz.prog 99 := Keyed.of_law (deep_law_laid laidOutB1 (m := 2) (by omega) rowL (by kernel_rfl) wideL)
theorem cellsL : Tryz.prog.cellsOf 99 = 3 := by kernel_rfl
theorem cellsL1 : Tryz.prog.cellsOf 3 = 1 := by kernel_rfl
theorem keyTypeAt_more {P : Program} : ∀ (m : Nat) (t : TypeId), P.keyTypeAt m t = true → P.keyTypeAt (m + 1) t = true := by
  intro m
  induction m with
  | zero => intro t h; simp [Program.keyTypeAt] at h
  | succ m ih =>
    intro t h
    rw [Program.keyTypeAt] at h ⊢
    cases hu : P.underlying t with
    | none => rw [hu] at h; exact h
    | some k =>
      rw [hu] at h
      cases k
      all_goals (first | exact h | exact ih _ h | skip)
      simp only [Bool.and_eq_true, Array.all_eq_true] at h ⊢
      exact ⟨⟨fun i hi => ⟨(h.1.1 i hi).1, ih _ (h.1.1 i hi).2⟩, h.1.2⟩, h.2⟩
theorem keyTypeAt_le {P : Program} {m n : Nat} {t : TypeId} (h : P.keyTypeAt m t = true) (hmn : m ≤ n) : P.keyTypeAt n t = true := by
  induction n with
  | zero => obtain rfl : m = 0 := by omega
            exact h
  | succ n ih =>
    rcases Nat.lt_or_ge n m with h1 | h1
    · obtain rfl : m = n + 1 := by omega
      exact h
    · exact keyTypeAt_more _ _ (ih h1)
theorem keyTL : Tryz.prog.keyType 99 = true := by
  have h2 : Tryz.prog.keyTypeAt 2 99 = true := by kernel_rfl
  have h0 : 0 < Tryz.prog.types.size := of_decide_eq_true (by kernel_rfl)
  unfold Program.keyType
  generalize Tryz.prog.types.size = z at h0 ⊢
  exact keyTypeAt_le h2 (by omega)
theorem lits1 (d : Nat) {x : Int} (h : okI x) : Tryz.prog.keyLits (d + 1) 3 [.int .i64 x] = some [.int .i64 x] := by
  unfold okI at h
  unfold Program.keyLits
  rw [Tryz.underlying3]
  simp [h]
theorem lits3 (d : Nat) {a b c : Int} (ha : okI a) (hb : okI b) (hc : okI c) : Tryz.prog.keyLits (d + 2) 99 [.int .i64 a, .int .i64 b, .int .i64 c] = some [.int .i64 a, .int .i64 b, .int .i64 c] := by
  have ka := lits1 d ha
  have kb := lits1 d hb
  have kc := lits1 d hc
  unfold Program.keyLits
  rw [Tryz.underlying99]
  simp [ka, kb, kc, cellsL, cellsL1]
theorem formL (a b c : Int) : Value.formed Tryz.prog 99 (.agg #[.int .i64 a, .int .i64 b, .int .i64 c]) = true := by
  unfold Value.formed
  simp [Tryz.underlying99, cellsL]
theorem keyL {x : SLink} (h : LinkOk x) : ∃ lt, keyOf Tryz.prog 99 (linkV x) = some lt := by
  obtain ⟨ha, hb, hc⟩ := h
  obtain ⟨n, hn⟩ : ∃ n, Tryz.prog.types.size + 1 = n + 2 := ⟨Tryz.prog.types.size - 1, by have : 0 < Tryz.prog.types.size := of_decide_eq_true (by kernel_rfl); omega⟩
  refine ⟨.string (keyBytes [.int .i64 x.frm, .int .i64 x.to_, .int .i64 x.since]), ?_⟩
  unfold linkV keyOf
  rw [Tryz.underlying99]
  simp only [keyTL, formL, Bool.and_self, if_true]
  rw [hn]
  show ((Tryz.prog.keyLits (n + 2) 99 [.int .i64 x.frm, .int .i64 x.to_, .int .i64 x.since]).map _) = _
  rw [lits3 n ha hb hc]
  rfl
theorem injL (a b : SLink) (h : linkV a = linkV b) : a = b := by
  obtain ⟨a1, a2, a3⟩ := a
  obtain ⟨b1, b2, b3⟩ := b
  unfold linkV at h
  simp only [Value.agg.injEq, Array.mk.injEq, List.cons.injEq, Value.int.injEq, true_and, and_true] at h
  obtain ⟨rfl, rfl, rfl⟩ := h
  rfl
def ML : MK SLink := ⟨157, 99, linkV, LinkOk, Tryz.underlying157, lawL, injL, fun _ h => keyL h⟩
end Go.Proofs.YtcmmppkmkejniaaGreatDoor
