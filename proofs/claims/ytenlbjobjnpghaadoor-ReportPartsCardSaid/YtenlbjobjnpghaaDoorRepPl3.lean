/-
  The text of lines, byte by byte: plain laws.
-/
import Derived.Test.YtenlbjobjnpghaaDoorRepPl2
namespace Go.Proofs.YtenlbjobjnpghaaDoor
set_option linter.unusedVariables false
theorem rowsOf_mk (bs : List SBal) (rs : List SRow) : rowsOf (rs.map (lnR bs)) = rs := by
  unfold rowsOf
  rw [List.map_map]
  have : ((fun x : SLine => x.row) ∘ lnR bs) = id := rfl
  rw [this, List.map_id]
theorem validL_mk {bs : List SBal} {rs : List SRow} (h : mkE bs rs = 0) : validL (rs.map (lnR bs)) = true := by
  obtain ⟨h1, h2, _⟩ := mk_ok h
  rw [validL_iff, rowsOf_mk]
  refine ⟨h1, ?_⟩
  rw [List.all_map, List.all_eq_true]
  intro r hr
  unfold mkOk at h2
  have := List.all_eq_true.1 h2 r hr
  show okLn (lnR bs r) = true
  rw [okLn_iff]
  refine ⟨this, fun ht => ?_⟩
  show amtR bs r = 0
  unfold amtR
  rw [if_pos (show isTitle r = true from ht)]
theorem map_getD (bs : List SBal) {rs : List SRow} {k : Nat} (hk : k < rs.length) : (rs.map (lnR bs)).getD k default = lnR bs (rs.getD k default) := by
  simp [List.getD, hk]
def bodyL (W : Nat) (x : SLine) : List UInt8 := capL x ++ (if isTitle x.row then [] else List.replicate (W - widL x + 1) 32 ++ amtText x.amt)
theorem oneL_body (W : Nat) (x : SLine) : oneL W x = bodyL W x ++ [10] := rfl
theorem body_row {W : Nat} {x : SLine} (h : isTitle x.row = false) (hw : widL x ≤ W) : (bodyL W x).length = W := by
  have h1 := widL_row h
  unfold bodyL
  rw [h]
  simp only [Bool.false_eq_true, if_false, List.length_append, List.length_replicate]
  omega
theorem dig_ne10 {b : UInt8} (h : isDig b = true) : b ≠ 10 := by
  intro e
  subst e
  have := isDig_iff.1 h
  simp at this
theorem two_no10 (m : Nat) : (10 : UInt8) ∉ two m := by
  unfold two
  intro h
  simp only [List.mem_cons, List.not_mem_nil, or_false] at h
  rcases h with h | h
  · exact dig_ne10 (dig_of (show m / 10 % 10 < 10 by omega)).1 h.symm
  · exact dig_ne10 (dig_of (show m % 10 < 10 by omega)).1 h.symm
theorem amt_no10 (n : Int) : (10 : UInt8) ∉ amtText n := by
  have hd : ∀ m, (10 : UInt8) ∉ Lib.decDigits m := fun m h => dig_ne10 (List.all_eq_true.1 (dec_all m) 10 h) rfl
  have hb : ∀ m, (10 : UInt8) ∉ amtBody m := by
    intro m h
    unfold amtBody at h
    rcases List.mem_append.1 h with h | h
    · exact hd _ h
    · rcases List.mem_cons.1 h with h | h
      · cases h
      · exact two_no10 _ h
  unfold amtText
  split
  · split
    · intro h
      rcases List.mem_cons.1 h with h | h
      · cases h
      · exact hb _ h
    · exact hb _
  · simp
theorem name_no10 {s : List UInt8} (h : nameOk s = true) : (10 : UInt8) ∉ s := by
  intro hm
  unfold nameOk at h
  simp only [Bool.and_eq_true] at h
  have := prB_iff.1 (List.all_eq_true.1 h.1.1 10 hm)
  simp at this
theorem body_no10 {W : Nat} {x : SLine} (h : nameOk x.row.name = true) : (10 : UInt8) ∉ bodyL W x := by
  intro hm
  unfold bodyL capL at hm
  rcases List.mem_append.1 hm with hm | hm
  · rcases List.mem_append.1 hm with hm | hm
    · have := (List.mem_replicate.1 hm).2; cases this
    · exact name_no10 h hm
  · split at hm
    · simp at hm
    · rcases List.mem_append.1 hm with hm | hm
      · have := (List.mem_replicate.1 hm).2; cases this
      · exact amt_no10 _ hm
def st (W : Nat) (xs : List SLine) (k : Nat) : Nat := (linesT W (xs.take k)).length
theorem st_zero (W : Nat) (xs : List SLine) : st W xs 0 = 0 := by simp [st, linesT]
theorem st_step {W : Nat} {xs : List SLine} {k : Nat} (hk : k < xs.length) : st W xs (k + 1) = st W xs k + ((bodyL W (xs.getD k default)).length + 1) := by
  unfold st
  rw [linesT_step hk, List.length_append, oneL_body, List.length_append]; rfl
theorem st_all {W : Nat} {xs : List SLine} {k : Nat} (hk : xs.length ≤ k) : st W xs k = (linesT W xs).length := by
  unfold st; rw [List.take_of_length_le hk]
theorem st_le {W : Nat} {xs : List SLine} {k : Nat} : st W xs k ≤ (linesT W xs).length := by
  have : linesT W xs = linesT W (xs.take k) ++ linesT W (xs.drop k) := by unfold linesT; rw [← List.flatMap_append, List.take_append_drop]
  unfold st
  rw [this, List.length_append]; omega
theorem text_byte {W : Nat} {xs : List SLine} {k j : Nat} (hk : k < xs.length) (hj : j < (bodyL W (xs.getD k default)).length + 1) : (linesT W xs).getD (st W xs k + j) 0 = (bodyL W (xs.getD k default) ++ [10]).getD j 0 := by
  have e : linesT W xs = linesT W (xs.take (k + 1)) ++ linesT W (xs.drop (k + 1)) := by unfold linesT; rw [← List.flatMap_append, List.take_append_drop]
  rw [e, linesT_step hk, oneL_body]
  unfold st
  generalize linesT W (xs.take k) = T
  generalize bodyL W (xs.getD k default) = B at *
  simp only [List.getD]
  rw [List.append_assoc, List.getElem?_append_right (by omega), List.getElem?_append_left (by rw [List.length_append]; simp; omega)]
  congr 2
  omega
theorem byte_in {W : Nat} {xs : List SLine} {k j : Nat} (hk : k < xs.length) (hn : nameOk (xs.getD k default).row.name = true) (hj : j < (bodyL W (xs.getD k default)).length) : (linesT W xs).getD (st W xs k + j) 0 ≠ 10 := by
  rw [text_byte hk (by omega)]
  have hb := body_no10 (W := W) hn
  generalize bodyL W (xs.getD k default) = B at *
  intro h
  refine hb ?_
  simp only [List.getD] at h
  rw [List.getElem?_append_left hj, List.getElem?_eq_getElem hj] at h
  simp only [Option.getD_some] at h
  rw [← h]
  exact List.getElem_mem hj
theorem byte_end {W : Nat} {xs : List SLine} {k : Nat} (hk : k < xs.length) : (linesT W xs).getD (st W xs k + (bodyL W (xs.getD k default)).length) 0 = 10 := by
  rw [text_byte hk (by omega)]
  simp [List.getD]
def wdB (xs : List SLine) (k : Nat) : Bool := (xs.take k).all fun x => isTitle x.row
def wd (W : Nat) (xs : List SLine) (k : Nat) : Int := if wdB xs k then -1 else W
theorem wdB_step {xs : List SLine} {k : Nat} (hk : k < xs.length) : wdB xs (k + 1) = (wdB xs k && isTitle (xs.getD k default).row) := by
  unfold wdB
  rw [List.take_succ_eq_append_getElem hk, List.all_append]
  have e : xs.getD k default = xs[k] := by simp [List.getD, hk]
  rw [e]; simp
theorem wd_title {W : Nat} {xs : List SLine} {k : Nat} (hk : k < xs.length) (h : isTitle (xs.getD k default).row = true) : wd W xs (k + 1) = wd W xs k := by
  unfold wd; rw [wdB_step hk, h, Bool.and_true]
theorem wd_row {W : Nat} {xs : List SLine} {k : Nat} (hk : k < xs.length) (h : isTitle (xs.getD k default).row = false) : wd W xs (k + 1) = W := by
  unfold wd; rw [wdB_step hk, h, Bool.and_false]; rfl
end Go.Proofs.YtenlbjobjnpghaaDoor
