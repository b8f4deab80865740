/-
  The cell that a text is: plain laws.
-/
import Derived.Test.YtophffmofpmbpaaDoorCel8
import Derived.Lib.AtoiTie
namespace Go.Proofs.YtophffmofpmbpaaDoor
set_option linter.unusedVariables false
def fillF : List Int → List (List UInt8) → Option (List Int × List (List UInt8))
  | [], ws => some ([], ws)
  | f :: fs, ws => if f < 0 then (fillF fs ws).map (fun r => (f :: r.1, r.2)) else match ws with
    | [] => none
    | w :: ws' => (fillF fs ws').map (fun r => (numW w :: r.1, r.2))
def wNum (n : Int) : List (List UInt8) := if 0 ≤ n then [Lib.decDigits n.toNat] else []
theorem isDig_no32 {l : List UInt8} (h : l.all isDig = true) : (32 : UInt8) ∉ l := by
  intro hm
  have := List.all_eq_true.1 h 32 hm
  revert this
  decide
theorem dec_no32 (m : Nat) : (32 : UInt8) ∉ Lib.decDigits m := isDig_no32 (dec_all m)
theorem wordsL_nums : ∀ (ns : List Int) (a : List UInt8), (32 : UInt8) ∉ a → wordsL (a ++ ns.flatMap numT) = a :: ns.flatMap wNum := by
  intro ns
  induction ns with
  | nil => intro a ha; simp only [List.flatMap_nil, List.append_nil]; exact wordsL_no ha
  | cons n ns ih =>
    intro a ha
    rw [List.flatMap_cons, List.flatMap_cons]
    by_cases h : 0 ≤ n
    · rw [show numT n = 32 :: Lib.decDigits n.toNat by unfold numT; rw [if_pos h], show wNum n = [Lib.decDigits n.toNat] by unfold wNum; rw [if_pos h], List.cons_append, wordsL_at ha, ih _ (dec_no32 _)]
      rfl
    · rw [show numT n = [] by unfold numT; rw [if_neg h], show wNum n = [] by unfold wNum; rw [if_neg h], List.nil_append, List.nil_append, ih a ha]
theorem dec_len_le' {m k : Nat} (h : m < 10 ^ (k + 1)) : (Lib.decDigits m).length ≤ k + 1 := by
  by_cases h0 : m = 0
  · subst h0; rw [Lib.decDigits_one (by omega)]; simp
  · have hh := dec_head (show 1 ≤ m by omega)
    have hv := dec_val m
    cases hd : Lib.decDigits m with
    | nil => simp
    | cons x r =>
      rw [hd] at hh hv
      have hg := decVal_ge (b := x) (l := r) (by simpa using hh)
      rw [hv] at hg
      have : r.length < k + 1 := (Nat.pow_lt_pow_iff_right (a := 10) (by omega)).1 (Nat.lt_of_le_of_lt hg h)
      simp
      omega
theorem dec_short {m : Nat} (h : m ≤ 1000000) : (Lib.decDigits m).length ≤ 18 := by
  have := dec_len_le' (m := m) (k := 6) (by omega)
  omega
theorem numW_dec {n : Int} (h0 : 0 ≤ n) (h1 : n ≤ 1000000) : numW (Lib.decDigits n.toNat) = n := by
  obtain ⟨m, rfl⟩ : ∃ m : Nat, n = m := ⟨n.toNat, by omega⟩
  have hl : (Lib.decDigits m).length ≤ 18 := dec_short (by omega)
  have : Lib.atoiAll (Lib.decDigits m) = .ok (m : Int) := by
    rw [Lib.atoiAll_short _ hl, atoi_digits (dec_num m), dec_val]; rfl
  show numW (Lib.decDigits m) = m
  rw [numW_ok this, if_pos ⟨h0, rfl⟩]
theorem fillF_nums : ∀ (ns : List Int) (ws : List (List UInt8)), (∀ n ∈ ns, -1 ≤ n ∧ n ≤ 1000) → fillF (ns.map fun n => if 0 ≤ n then 0 else -1) (ns.flatMap wNum ++ ws) = some (ns, ws) := by
  intro ns
  induction ns with
  | nil => intro ws _; rfl
  | cons n ns ih =>
    intro ws h
    have hn := h n (by simp)
    have ih' := ih ws (fun m hm => h m (by simp [hm]))
    rw [List.map_cons, List.flatMap_cons]
    by_cases h0 : 0 ≤ n
    · rw [if_pos h0, show wNum n = [Lib.decDigits n.toNat] by unfold wNum; rw [if_pos h0]]
      show fillF (0 :: _) (Lib.decDigits n.toNat :: (ns.flatMap wNum ++ ws)) = _
      unfold fillF
      rw [if_neg (by omega)]
      simp only []
      rw [ih', numW_dec h0 (by omega)]
      rfl
    · rw [if_neg h0, show wNum n = [] by unfold wNum; rw [if_neg h0]]
      show fillF (-1 :: _) (ns.flatMap wNum ++ ws) = _
      unfold fillF
      rw [if_pos (by omega), ih']
      have : n = -1 := by omega
      rw [this]; rfl
/-- the three fields that a stage starts with -/
def startF (k : Nat) : List Int := [if uE k then 0 else -1, if uO k then 0 else -1, if uP k then 0 else -1]
def finD (l : List UInt8) (k : Nat) : Option (List Int × List (List UInt8)) → Option SCell
  | some ([a, b, c], []) => if validC ⟨k, a, b, c⟩ && (textC ⟨k, a, b, c⟩ == l) then some ⟨k, a, b, c⟩ else none
  | _ => none
def pcD (l : List UInt8) : Option SCell := match wordsL l with
  | [] => none
  | w0 :: ws => if stOf w0 = 0 then none else finD l (stOf w0) (fillF (startF (stOf w0)) ws)
theorem finD_some {l : List UInt8} {k : Nat} {x : Option (List Int × List (List UInt8))} {c : SCell} (h : finD l k x = some c) : validC c = true ∧ textC c = l := by
  unfold finD at h
  split at h
  · split at h
    · rename_i hc
      rw [Bool.and_eq_true, beq_iff_eq] at hc
      injection h with h
      rw [← h]
      exact hc
    · cases h
  · cases h
theorem let_no32 {i : Fin 23} : (32 : UInt8) ∉ nmL.getD i [] := by
  intro hm
  have := List.all_eq_true.1 (nm_let i) 32 hm
  revert this
  decide
theorem pcD_iff {l : List UInt8} {c : SCell} : pcD l = some c ↔ validC c = true ∧ textC c = l := by
  constructor
  · intro h
    unfold pcD at h
    split at h
    · cases h
    · split at h
      · cases h
      · exact finD_some h
  · rintro ⟨hv, rfl⟩
    have hbd := validC_bd hv
    obtain ⟨hk, u1, u2, u3, _⟩ := validC_iff.1 hv
    have e1 := inB_used u1
    have e2 := inB_used u2
    have e3 := inB_used u3
    obtain ⟨st, en, ot, pe⟩ := c
    simp only [] at hbd hk e1 e2 e3
    obtain ⟨k, rfl, k1, k2⟩ := known_nat hk
    have hnm : nmS (k : Int) = nmL.getD k [] := by unfold nmS; rw [hk]; rfl
    have ht : textC ⟨(k : Int), en, ot, pe⟩ = nmL.getD k [] ++ [en, ot, pe].flatMap numT := by
      unfold textC
      rw [hv, if_pos rfl]
      simp only [hnm, List.flatMap_cons, List.flatMap_nil, List.append_nil, List.append_assoc]
    have hw : wordsL (textC ⟨(k : Int), en, ot, pe⟩) = nmL.getD k [] :: [en, ot, pe].flatMap wNum := by
      rw [ht, wordsL_nums _ _ (let_no32 (i := ⟨k, by omega⟩))]
    have hs : stOf (nmL.getD k []) = k := stOf_at k1 k2 rfl
    have hst : startF k = [en, ot, pe].map fun n => if 0 ≤ n then 0 else -1 := by
      unfold startF
      rw [e1, e2, e3]
      simp
    have hf := fillF_nums [en, ot, pe] [] (by
      intro n hn
      simp only [List.mem_cons, List.not_mem_nil, or_false] at hn
      rcases hn with rfl | rfl | rfl <;> omega)
    rw [List.append_nil] at hf
    unfold pcD
    rw [hw]
    simp only []
    rw [hs, if_neg (by omega), hst, hf]
    unfold finD
    simp only []
    rw [hv]
    simp
end Go.Proofs.YtophffmofpmbpaaDoor
