/-
  Join: the program's and the reference's.
-/
import Derived.Test.YtblpgdfjmkefkaaDoorTokW13
import Derived.Test.YtblpgdfjmkefkaaDoorTokLaws
import Derived.Lib.Join
namespace Go.Proofs.YtblpgdfjmkefkaaDoor
open Go.RowKit
set_option linter.unusedVariables false
def txts (ts : List Tok) : List (List UInt8) := ts.map (·.text)
theorem txts_step {ts : List Tok} {k : Nat} (hk : k < ts.length) : txts (ts.take (k + 1)) = txts (ts.take k) ++ [(ts.getD k ⟨0, [], 0⟩).text] := by
  unfold txts
  rw [List.take_succ_eq_append_getElem hk, List.map_append]
  have e : ts.getD k ⟨0, [], 0⟩ = ts[k] := by simp [List.getD, hk]
  rw [e]; rfl
theorem joinL_snoc : ∀ (xs : List (List UInt8)) (y : List UInt8), joinL (xs ++ [y]) = if xs = [] then y else joinL xs ++ 32 :: y := by
  intro xs
  induction xs with
  | nil => intro y; rfl
  | cons x r ih =>
    intro y
    cases r with
    | nil => rfl
    | cons z r =>
      have := ih y
      simp only [List.cons_append, joinL] at this ⊢
      rw [this]
      simp
theorem joinL_eq : ∀ xs : List (List UInt8), joinL xs = Lib.join xs [32] := by
  intro xs
  induction xs with
  | nil => rfl
  | cons x r ih =>
    cases r with
    | nil => rw [Lib.join_one]; rfl
    | cons y r =>
      show x ++ 32 :: joinL (y :: r) = _
      rw [ih, Lib.join_cons, Lib.join_cons]
      simp [Lib.joinTail]
theorem joinL_le {M : Nat} : ∀ {xs : List (List UInt8)}, (∀ x ∈ xs, x.length ≤ M) → (joinL xs).length ≤ xs.length * (M + 1) := by
  intro xs
  induction xs with
  | nil => intro _; simp [joinL]
  | cons x r ih =>
    intro h
    have h1 := h x (by simp)
    have h2 := ih (fun y hy => h y (by simp [hy]))
    cases r with
    | nil => simp [joinL]; omega
    | cons y r =>
      simp only [joinL, List.length_append, List.length_cons] at h2 ⊢
      rw [Nat.add_mul, Nat.one_mul]
      omega
theorem info_str : (Tryd.prog.info? 9).map (fun i => (i.zero, i.size, i.bytes)) = some (some (.string ⟨#[]⟩), 1, 16) := by kernel_rfl
theorem strs_snoc (xs : List (List UInt8)) (x : List UInt8) : strs (xs ++ [x]) = strs xs ++ [.string ⟨x.toArray⟩] := by simp [strs]
theorem strs_one (xs : List (List UInt8)) : ∀ u ∈ strs xs, u.oneCell' = true := by
  intro u hu
  obtain ⟨z, _, rfl⟩ := List.mem_map.1 hu
  rfl
theorem ret_str {a b : List UInt8} (h : a = b) : Ending.returned (.string ⟨a.toArray⟩) = .returned (.string ⟨b.toArray⟩) := by rw [h]
/-- strings.Join at a row of the call's own -/
theorem sjoin_own (xs : List (List UInt8)) (v : Value) (base : Nat) (w : World) (ho : w.ownsRow base 9 1 v xs.length (strs xs)) (hn : xs.length ≤ 100000) (hl : (joinL xs).length ≤ 140737488355328) :
    Calls Tryd.prog 23 #[v, .string ⟨#[32]⟩] w fun e w' => e = .returned (.string ⟨(joinL xs).toArray⟩) ∧ Below w.heap.size w w' := by
  rcases Nat.eq_zero_or_pos xs.length with h0 | h0
  · obtain ⟨A, c, rfl⟩ := own_slice ho
    have e : xs = [] := List.eq_nil_of_length_eq_zero h0
    subst e
    refine (Tryd.strings_Join_none A c _ w).mono ?_
    rintro e wx ⟨rfl, rfl⟩
    exact ⟨rfl, Below.refl _ _⟩
  · obtain ⟨g, cap, hv, _, hlt⟩ := ho.form h0
    have hc := ho.cells (g := g) (by rw [hv]; rfl)
    have hcap : xs.length ≤ cap := by
      rcases ho.2 with ⟨_, hx⟩ | ⟨g', cap', cur, rfl, _, _, hnc, _⟩
      · rw [hx] at h0; simp at h0
      · injection hv with _ _ h3; omega
    subst hv
    have e1 : (xs.map fun x => (⟨x.toArray⟩ : ByteArray)).map (fun b => b.data.toList) = xs := by
      rw [List.map_map]
      conv => rhs; rw [← List.map_id xs]
      apply List.map_congr_left
      intro x _
      rfl
    have h := Tryd.strings_Join g 0 cap (xs.map fun x => (⟨x.toArray⟩ : ByteArray)) ⟨#[32]⟩ w (by
      intro j x hx
      rw [List.getElem?_map] at hx
      cases hz : xs[j]? with
      | none => rw [hz] at hx; cases hx
      | some z =>
        rw [hz] at hx
        injection hx with hx
        subst hx
        have := hc j (.string ⟨z.toArray⟩) (by unfold strs; rw [List.getElem?_map, hz]; rfl)
        rw [Nat.zero_add, ← this]
        unfold Addr.add
        split
        · rename_i h; rw [h]
        · simp) hlt (by rw [List.length_map]; omega) (by rw [List.length_map]; exact hcap) (by rw [e1]; rw [joinL_eq] at hl; exact hl)
    rw [e1, List.length_map] at h
    rw [joinL_eq]
    exact h
set_option maxHeartbeats 2000000 in
theorem join_any (ts : List Tok) (A : Option Addr) (n c B : Nat) (w : World) (hr : Reads w B 3 A n (tokCells ts)) (hB : B ≤ w.heap.size) (hn : n ≤ 10000) (hl : (joinL (txts ts)).length ≤ 140737488355328) :
    Calls Tryd.prog 14 #[.slice A n c] w fun e w' => e = .returned (.string ⟨(joinL (txts ts)).toArray⟩) ∧ Below w.heap.size w w' := by
  obtain ⟨i0, hi0, hz0, hz1, hz2⟩ := info_parts info_str
  have HL := Lib.hid (toks_len hr)
  have HR := Lib.hid hr
  have HJ := Lib.hid hl
  clear hr hl
  generalize hjj : joinL (txts ts) = J at *
  have HJJ := Lib.hid hjj
  clear hjj
  go_enter Tryd.func14, Tryd.ntmps14
  go_wp2_with fail
  go_loopw [3, 8] (fun v i wr => ∃ k : Nat, k ≤ n ∧ i = .int .i64 k ∧ wr.ownsRow w.heap.size 9 1 v k (strs (txts (ts.take k))) ∧ Below w.heap.size w wr) (fun _ i _ => n - (intOf i).toNat)
  case atStart => exact ⟨0, by omega, rfl, World.ownsRow_nil _ _ _ _, Below.refl _ _⟩
  case round =>
    obtain ⟨k, hk, rfl, hown, hbr⟩ := hrel
    obtain ⟨wo, rfl⟩ : ∃ wo : World, wo = wr := ⟨_, rfl⟩
    have HO := Lib.hid hown
    clear hown
    by_cases hlt : k < n
    · obtain ⟨ad, rfl, hbk, c0, c1, c2⟩ := (HR.out.low hB (Nat.le_refl _) hbr).tok_at hlt
      have HS : Hid (strs (txts (ts.take (k + 1))) = strs (txts (ts.take k)) ++ [.string ⟨(ts.getD k ⟨0, [], 0⟩).text.toArray⟩]) := by
        show _ = _
        rw [txts_step (by rw [HL.out]; exact hlt), strs_snoc]
      generalize ts.getD k ⟨0, [], 0⟩ = t at *
      go_wp2_with (at_builtin; refine wpList_append_any _ rfl (.tmp 12) (.tmp 15) _ rfl w.heap.size 9 i0 _ 1 16 Tryd.underlying37 hi0 hz0 hz1 hz2 rfl (by omega) _ k (strs (txts (ts.take k))) rfl ((HO.out.alloc _).alloc _) (wo.heap.size + 1 + 1) (some ⟨wo.heap.size + 1, 0, none⟩) 1 1 [.string ⟨t.text.toArray⟩] rfl (by have := reads_one (wo.alloc (.cells #[.int .i64 t.kind, .string ⟨t.text.toArray⟩, .int .i64 t.from_] 34)) #[.string ⟨t.text.toArray⟩] 9 1 rfl; rw [World.size_alloc] at this; exact this) (strs_one [t.text]) (by simp only [maxLen]; omega) (by omega) (by simp only [World.size_alloc]; have := hbr.size; omega) ?_; intro v4 w4 hown4 hg4 hat4)
      rw [← HS.out] at hown4
      exact ⟨⟨k + 1, by omega, by go_num, hown4, ((hbr.alloc hbr.size _).alloc (by simp only [World.size_alloc]; have := hbr.size; omega) _).grown hg4 (by simp only [World.size_alloc]; have := hbr.size; omega) (own_base HO.out)⟩, by simp [intOf]; omega⟩
    · have e : k = n := by omega
      have hown := HO.out
      rw [List.take_of_length_le (by rw [HL.out]; omega), e, ← HL.out] at hown
      have hown' := hown
      rw [← show (txts ts).length = ts.length by simp [txts]] at hown'
      have HO1 := Lib.hid hown'
      clear hown e hown'
      go_wp2_with fail
      refine (sjoin_own (txts ts) _ _ _ HO1.out (by rw [show (txts ts).length = ts.length by simp [txts], HL.out]; omega) (by rw [HJJ.out]; exact HJ.out)).mono ?_
      rintro e w5 ⟨rfl, hb5⟩
      rw [HJJ.out]
      go_wp2_with fail
      go_ret
      exact ⟨rfl, below_two hbr hb5⟩
theorem cat_mk (a b : List UInt8) : (⟨a.toArray⟩ ++ ⟨b.toArray⟩ : ByteArray) = ⟨(a ++ b).toArray⟩ := by
  apply ByteArray.ext
  simp
set_option maxHeartbeats 2000000 in
theorem refJoin_any (ts : List Tok) (A : Option Addr) (n c B : Nat) (w : World) (hr : Reads w B 3 A n (tokCells ts)) (hB : B ≤ w.heap.size) (hn : n ≤ 30) (hl : ∀ t ∈ ts, t.text.length ≤ 100) :
    Calls Tryd.prog 19 #[.slice A n c] w fun e w' => e = .returned (.string ⟨(joinL (txts ts)).toArray⟩) ∧ w = w' := by
  have HL := Lib.hid (toks_len hr)
  have HR := Lib.hid hr
  have HJ := Lib.hid hl
  clear hr hl
  go_enter Tryd.func19, Tryd.ntmps19
  go_wp2_with fail
  go_loop [3, 4] (fun s i => ∃ k : Nat, k ≤ n ∧ i = .int .i64 k ∧ s = .string ⟨(joinL (txts (ts.take k))).toArray⟩) (fun _ i => n - (intOf i).toNat)
  case atStart => exact ⟨0, by omega, rfl, rfl⟩
  case round =>
    obtain ⟨k, hk, rfl, rfl⟩ := hrel
    have hlk : (joinL (txts (ts.take k))).length ≤ 30 * 101 := by
      have h1 := joinL_le (M := 100) (xs := txts (ts.take k)) (by
        intro x hx
        obtain ⟨t, ht, rfl⟩ := List.mem_map.1 hx
        exact HJ.out t (List.mem_of_mem_take ht))
      have h2 : (txts (ts.take k)).length ≤ 30 := by
        unfold txts; rw [List.length_map]
        exact Nat.le_trans (List.length_take_le _ _) (by omega)
      have := Nat.mul_le_mul_right 101 h2
      omega
    by_cases hlt : k < n
    · obtain ⟨ad, rfl, hbk, c0, c1, c2⟩ := HR.out.tok_at hlt
      have HS : Hid (txts (ts.take (k + 1)) = txts (ts.take k) ++ [(ts.getD k ⟨0, [], 0⟩).text]) := by
        exact txts_step (by rw [HL.out]; exact hlt)
      have htl : (ts.getD k ⟨0, [], 0⟩).text.length ≤ 100 := by
        have hkl : k < ts.length := by rw [HL.out]; exact hlt
        have := HJ.out (ts[k]) (List.getElem_mem hkl)
        simpa [List.getD, hkl] using this
      have HE : Hid (txts (ts.take k) = [] ↔ k = 0) := by
        show _ ↔ _
        constructor
        · intro h
          have := congrArg List.length h
          simp [txts, List.length_take, HL.out] at this
          omega
        · rintro rfl; rfl
      generalize ts.getD k ⟨0, [], 0⟩ = t at *
      generalize hjj : joinL (txts (ts.take k)) = J at *
      have HJJ := Lib.hid hjj
      clear hjj
      rcases Nat.eq_zero_or_pos k with h0 | h0
      · have F : Hid (joinL (txts (ts.take (k + 1))) = J ++ t.text) := by
          show _ = _
          have e := HE.out.2 h0
          rw [HS.out, joinL_snoc, if_pos e, ← HJJ.out, e]; rfl
        have hd : decide (0 < k) = false := by rw [decide_eq_false_iff_not]; omega
        have hd2 : ¬ 0 < k := by omega
        clear h0
        go_wp2_with fail
        go_round
        case rel => exact ⟨k + 1, by omega, by go_num, by rw [F.out, ← cat_mk]⟩
        case measure => simp [intOf]; omega
      · have F : Hid (joinL (txts (ts.take (k + 1))) = J ++ [32] ++ t.text) := by
          show _ = _
          rw [HS.out, joinL_snoc, if_neg (fun h => by have := HE.out.1 h; omega), HJJ.out]; simp
        go_wp2_with fail
        go_round
        case rel => exact ⟨k + 1, by omega, by go_num, by rw [F.out, ← cat_mk, ← cat_mk]⟩
        case measure => simp [intOf]; omega
    · have e : ts.take k = ts := List.take_of_length_le (by rw [HL.out]; omega)
      rw [e]
      clear e
      go_wp2_with fail
      go_ret
      exact ⟨rfl, rfl⟩
end Go.Proofs.YtblpgdfjmkefkaaDoor
