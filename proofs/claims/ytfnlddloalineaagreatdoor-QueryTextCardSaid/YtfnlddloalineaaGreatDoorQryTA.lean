/-
  Plain: what is read is the text of the result: pieces, names, by.
  Plain: numbers, dates, conditions that are read are their own texts.
  Plain: a query that is read stands, and its text is what was read.
  The law QueryText.
-/
import Derived.Test.YtfnlddloalineaaGreatDoorQryPC
import Derived.Test.YtfnlddloalineaaGreatDoorQryRA
import Derived.Test.YtfnlddloalineaaGreatDoorQryPB
namespace Go.Proofs.YtfnlddloalineaaGreatDoor
set_option linter.unusedVariables false
theorem joinTail_cons (sep x : Wd) (r : List Wd) : Lib.joinTail sep (x :: r) = sep ++ x ++ Lib.joinTail sep r := by
  unfold Lib.joinTail
  simp
theorem join_pieces (c : UInt8) : ∀ s : Wd, Lib.join (piecesL c s) [c] = s := by
  intro s
  induction s with
  | nil => exact Lib.join_one [] [c]
  | cons b r ih =>
    obtain ⟨w, ws, hw⟩ : ∃ w ws, piecesL c r = w :: ws := by
      cases h : piecesL c r with
      | nil => exact absurd h (piecesL_ne c r)
      | cons w ws => exact ⟨w, ws, rfl⟩
    rw [hw, Lib.join_cons] at ih
    by_cases hb : b = c
    · subst hb
      have e : piecesL b (b :: r) = [] :: piecesL b r := by rw [piecesL]; exact if_pos rfl
      rw [e, hw, Lib.join_cons, joinTail_cons]
      simp only [List.nil_append, List.cons_append]
      rw [ih]
    · have e : piecesL c (b :: r) = (b :: w) :: ws := by rw [piecesL, if_neg hb, hw]
      rw [e, Lib.join_cons, List.cons_append, ih]
theorem idxW_get : ∀ {l : List Wd} {s : Wd}, ¬ idxW l s < 0 → l.getD (idxW l s).toNat [] = s := by
  intro l
  induction l with
  | nil => intro s h; exact absurd (show (-1 : Int) < 0 by decide) h
  | cons x r ih =>
    intro s h
    rw [idxW_cons] at h ⊢
    by_cases hx : (x == s) = true
    · rw [if_pos hx]
      exact beq_iff_eq.1 hx
    · rw [if_neg hx] at h ⊢
      by_cases hr : idxW r s < 0
      · rw [if_pos hr] at h; exact absurd (show (-1 : Int) < 0 by decide) h
      · rw [if_neg hr]
        have e : (idxW r s + 1).toNat = (idxW r s).toNat + 1 := by omega
        rw [e]
        exact ih hr
theorem byR_ok {f : Wd} {l : List Int} (h : byR f = .ok l) : Lib.join (l.map fdW) [44] = f ∧ (∀ k, k < l.length → 0 ≤ l.getD k 0 ∧ l.getD k 0 ≤ 4) ∧ (∀ k, k < l.length → (l.take k).contains (l.getD k 0) = false) := by
  unfold byR at h
  split at h
  · cases h
  · rename_i h1
    split at h
    · cases h
    · rename_i h2
      cases h
      have hall : ∀ x, x ∈ piecesL 44 f → ¬ idxW fdL x < 0 := by
        intro x hx hlt
        refine h1 (List.any_eq_true.2 ⟨idxW fdL x, ?_, by rw [decide_eq_true_eq]; exact hlt⟩)
        unfold byN
        exact List.mem_map.2 ⟨x, hx, rfl⟩
      refine ⟨?_, fun k hk => ?_, fun k hk => ?_⟩
      · have e : (byN f).map fdW = piecesL 44 f := by
          unfold byN
          rw [List.map_map]
          conv => rhs; rw [← List.map_id (piecesL 44 f)]
          apply List.map_congr_left
          intro x hx
          exact idxW_get (hall x hx)
        rw [e]
        exact join_pieces 44 f
      · have hm : (byN f).getD k 0 ∈ byN f := by rw [List.getD_eq_getElem?_getD, List.getElem?_eq_getElem hk]; exact List.getElem_mem hk
        unfold byN at hm
        obtain ⟨x, hx, he⟩ := List.mem_map.1 hm
        have h3 := hall x hx
        have h4 := idxW_bd fdL x
        have h5 : fdL.length = 5 := rfl
        unfold byN
        rw [← he]
        exact ⟨by omega, by omega⟩
      · cases hc : ((byN f).take k).contains ((byN f).getD k 0) with
        | false => rfl
        | true =>
          exfalso
          refine h2 ?_
          unfold dupB
          exact List.any_eq_true.2 ⟨k, List.mem_range.2 hk, hc⟩
end Go.Proofs.YtfnlddloalineaaGreatDoor
namespace Go.Proofs.YtfnlddloalineaaGreatDoor
open Go.Lib (decDigits)
set_option linter.unusedVariables false
theorem trim45 (s : Wd) : (sgnD s = s ∧ (s.head? ≠ some 45)) ∨ (∃ d, s = 45 :: d ∧ sgnD s = d) := by
  cases s with
  | nil => exact .inl ⟨rfl, by simp⟩
  | cons c d =>
    by_cases hc : c = 45
    · subst hc
      exact .inr ⟨d, rfl, sgnD_minus d⟩
    · have h : (c :: d).head? ≠ some 45 := by simpa using hc
      exact .inl ⟨sgnD_no h, h⟩
theorem dig_ge {l : Wd} (hn : l ≠ []) (ha : l.all isDig = true) (h0 : l.getD 0 0 ≠ 48) : 49 ≤ (l.getD 0 0).toNat := by
  cases l with
  | nil => exact absurd rfl hn
  | cons b r =>
    rw [List.all_cons, Bool.and_eq_true] at ha
    have h1 := isDig_iff.1 ha.1
    have h2 : b ≠ 48 := h0
    have h3 : b.toNat ≠ 48 := fun e => h2 (UInt8.toNat_inj.1 e)
    show 49 ≤ b.toNat
    omega
theorem int_inv {s : Wd} {n : Int} (h : intR s = (n, 0)) : Lib.itoa n = s ∧ -1000000000000 ≤ n ∧ n ≤ 1000000000000 := by
  unfold intR at h
  split at h
  · rename_i hf
    rw [intN_eq hf] at h
    by_cases hr : -1000000000000 ≤ rintN s ∧ rintN s ≤ 1000000000000
    · rw [if_pos hr] at h
      simp only [Prod.mk.injEq] at h
      obtain ⟨rfl, _⟩ := h
      refine ⟨?_, hr⟩
      obtain ⟨p1, p2, p3⟩ := intF_parts hf
      have hnum : isNum (sgnD s) = true := by
        unfold isNum
        rw [p2]
        cases hh : sgnD s with
        | nil => exact absurd hh p1
        | cons a b => rfl
      have hcan : decDigits (decVal (sgnD s)) = sgnD s := by
        refine dec_canon _ hnum ?_
        rcases p3 with h1 | h1
        · refine .inl ?_
          rw [h1]; rfl
        · exact .inr (dig_ge p1 p2 h1)
      rcases trim45 s with ⟨he, _⟩ | ⟨d, rfl, he⟩
      · unfold rintN
        rw [if_pos (by rw [he]; simp), Lib.itoa_nonneg, hcan, he]
      · have hne : (sgnD (45 :: d) == 45 :: d) = false := by
          rw [he, beq_eq_false_iff_ne]
          intro e
          have := congrArg List.length e
          simp at this
        unfold rintN
        rw [if_neg (by rw [hne]; decide)]
        rw [he] at p1 p2 p3 hcan ⊢
        have hpos : 1 ≤ decVal d := by
          rcases p3 with h1 | h1
          · simp at h1
          · have h2 := dig_ge p1 p2 h1
            cases d with
            | nil => exact absurd rfl p1
            | cons b r =>
              have := decVal_ge (l := r) (show 49 ≤ b.toNat from h2)
              have := Nat.one_le_two_pow (n := r.length)
              have : 1 ≤ 10 ^ r.length := Nat.one_le_pow _ _ (by omega)
              omega
        rw [Lib.itoa_neg _ hpos, hcan]
    · rw [if_neg hr] at h
      simp at h
  · simp at h
theorem twoL_dig {a b : UInt8} (ha : isDig a = true) (hb : isDig b = true) {k : Int} (hk : k = (((a.toNat - 48) * 10 + (b.toNat - 48) : Nat) : Int)) : twoL k = [a, b] := by
  have h1 := isDig_iff.1 ha
  have h2 := isDig_iff.1 hb
  subst hk
  unfold twoL
  have e1 : (48 + (((a.toNat - 48) * 10 + (b.toNat - 48) : Nat) : Int) / 10).toNat = a.toNat := by omega
  have e2 : (48 + (((a.toNat - 48) * 10 + (b.toNat - 48) : Nat) : Int) % 10).toNat = b.toNat := by omega
  rw [e1, e2]
  simp
theorem date_inv {s : Wd} {n : Int} (h : datP s = (n, 0)) : datT n = s ∧ dateB n = true := by
  unfold datP at h
  split at h
  · rename_i hf
    split at h
    · rename_i hd
      simp only [Prod.mk.injEq] at h
      obtain ⟨rfl, _⟩ := h
      have hbd := dayN_bd hd
      refine ⟨?_, by unfold dateB; rw [Bool.and_eq_true, decide_eq_true_eq, decide_eq_true_eq]; exact hbd⟩
      rw [datT_of hd]
      rw [Bool.and_eq_true] at hf
      obtain ⟨hf, hg⟩ := hf
      unfold datF at hf
      rw [Bool.and_eq_true, Bool.and_eq_true, decide_eq_true_eq, beq_iff_eq, beq_iff_eq] at hf
      obtain ⟨hl, h4, h7⟩ := hf
      obtain ⟨a, b, c, d, x, e, f, y, g, i, rfl⟩ : ∃ a b c d x e f y g i, s = [a, b, c, d, x, e, f, y, g, i] := by
        match s, hl with
        | [a, b, c, d, x, e, f, y, g, i], _ => exact ⟨a, b, c, d, x, e, f, y, g, i, rfl⟩
      have h4 : x = 45 := h4
      have h7 : y = 45 := h7
      subst h4 h7
      unfold datD at hg
      simp only [List.take_succ_cons, List.take_zero, List.drop_succ_cons, List.drop_zero, List.all_cons, List.all_nil, Bool.and_true, Bool.and_eq_true] at hg
      obtain ⟨⟨ga, gb, gc, gd⟩, ⟨ge, gf⟩, gg, gi⟩ := hg
      have da := isDig_iff.1 ga
      have db := isDig_iff.1 gb
      have dc := isDig_iff.1 gc
      have dd := isDig_iff.1 gd
      unfold ymdT
      simp only [List.take_succ_cons, List.take_zero, List.drop_succ_cons, List.drop_zero, decVal, List.foldl_cons, List.foldl_nil, Nat.zero_mul, Nat.zero_add]
      rw [twoL_dig ga gb (by omega), twoL_dig gc gd (by omega), twoL_dig ge gf rfl, twoL_dig gg gi rfl]
      rfl
    · simp at h
  · simp at h
end Go.Proofs.YtfnlddloalineaaGreatDoor
namespace Go.Proofs.YtfnlddloalineaaGreatDoor
set_option linter.unusedVariables false
def cV (c : SCond) : List Wd := [fdW c.f, opL.getD c.o.toNat [], valT c]
theorem cW_cV (j : Wd) (c : SCond) : cW j c = j :: cV c := rfl
theorem cndR_inv {ws r : List Wd} {c : SCond} (h : cndR ws = .ok (c, r)) : okCnd c ∧ ws = cV c ++ r := by
  cases ws with
  | nil => cases h
  | cons x ws =>
    rw [cndR.eq_def] at h
    simp only [] at h
    by_cases hx : idxW fdL x < 0
    · rw [if_pos hx] at h; cases h
    · rw [if_neg hx] at h
      cases ws with
      | nil => cases h
      | cons o vs =>
        simp only [] at h
        by_cases ho : idxW (opL.take (opN (idxW fdL x))) o < 0
        · rw [if_pos ho] at h; cases h
        · rw [if_neg ho] at h
          cases vs with
          | nil => cases h
          | cons v r' =>
            simp only [] at h
            by_cases hv : (valO (idxW fdL x) v).2 = 0
            · rw [if_pos hv] at h
              injection h with h
              injection h with h1 h2
              subst h1 h2
              have hf := idxW_bd fdL x
              have hf5 : fdL.length = 5 := rfl
              have hot := idxW_take opL (opN (idxW fdL x)) o
              have hb := idxW_bd opL o
              have hop6 : opL.length = 6 := rfl
              by_cases hc : 0 ≤ idxW opL o ∧ idxW opL o < opN (idxW fdL x)
              · rw [if_pos hc] at hot
                rw [hot] at ho ⊢
                have hpair : valO (idxW fdL x) v = ((valO (idxW fdL x) v).1, 0) := by rw [← hv]
                have hfd : fdW (idxW fdL x) = x := idxW_get hx
                have hod : opL.getD (idxW opL o).toNat [] = o := idxW_get ho
                have key : okCnd ⟨idxW fdL x, idxW opL o, (valO (idxW fdL x) v).1⟩ ∧ valT ⟨idxW fdL x, idxW opL o, (valO (idxW fdL x) v).1⟩ = v := by
                  generalize (valO (idxW fdL x) v).1 = n at *
                  have hon := hc.2
                  generalize idxW fdL x = f at *
                  generalize idxW opL o = k at *
                  unfold valO at hpair
                  unfold opN at hon
                  unfold okCnd valT
                  simp only []
                  by_cases h3 : f = 3
                  · rw [if_pos h3] at hpair hon ⊢
                    unfold kndP at hpair
                    by_cases hk : idxW kdL v < 0
                    · rw [if_pos hk] at hpair; simp at hpair
                    · rw [if_neg hk] at hpair
                      simp only [Prod.mk.injEq, and_true] at hpair
                      have hkb := idxW_bd kdL v
                      have hk11 : kdL.length = 11 := rfl
                      subst hpair
                      exact ⟨⟨by omega, by omega, by omega, by omega, fun _ => ⟨by omega, by omega, by omega⟩, fun h => by omega, fun h => absurd h3 h⟩, idxW_get hk⟩
                  · rw [if_neg h3] at hpair hon ⊢
                    by_cases h4 : f = 4
                    · rw [if_pos h4] at hpair ⊢
                      obtain ⟨d1, d2⟩ := date_inv hpair
                      exact ⟨⟨by omega, by omega, by omega, by omega, fun h => absurd h h3, fun _ => d2, fun _ h => absurd h4 h⟩, d1⟩
                    · rw [if_neg h4] at hpair ⊢
                      obtain ⟨d1, d2⟩ := int_inv hpair
                      exact ⟨⟨by omega, by omega, by omega, by omega, fun h => absurd h h3, fun h => absurd h h4, fun _ _ => d2⟩, d1⟩
                refine ⟨key.1, ?_⟩
                unfold cV
                rw [key.2]
                simp only []
                rw [hfd, hod]
                rfl
              · rw [if_neg hc] at hot
                rw [hot] at ho
                exact absurd (by decide) ho
            · rw [if_neg hv] at h; cases h
theorem whR_inv : ∀ {n : Nat} {acc : List SCond} {ws : List Wd} {cs : List SCond}, whR n acc ws = .ok cs → ∃ c l, cs = acc ++ c :: l ∧ ws = cV c ++ l.flatMap (cW andW) ∧ ∀ x, x ∈ c :: l → okCnd x := by
  intro n
  induction n with
  | zero =>
    intro acc ws cs h
    unfold whR at h
    split at h <;> cases h
  | succ n ih =>
    intro acc ws cs h
    rcases hc : cndR ws with p | ⟨c, r⟩
    · rw [whR_err hc (.inl (by omega))] at h; cases h
    · obtain ⟨hok, hws⟩ := cndR_inv hc
      cases r with
      | nil =>
        rw [whR_end hc] at h
        cases h
        exact ⟨c, [], rfl, hws, fun x hx => by simp at hx; subst hx; exact hok⟩
      | cons y r =>
        by_cases hy : y = andW
        · subst hy
          rw [whR_and hc] at h
          obtain ⟨c', l, h1, h2, h3⟩ := ih h
          refine ⟨c, c' :: l, by rw [h1]; simp, ?_, fun x hx => ?_⟩
          · rw [hws, h2, List.flatMap_cons, cW_cV]; simp
          · rcases List.mem_cons.1 hx with rfl | hx
            · exact hok
            · exact h3 x hx
        · rw [whR_bad hc hy] at h; cases h
theorem tailR_inv {verb : Int} {byl : List Int} {ws : List Wd} {q : SQry} (h : tailR verb byl ws = .ok q) : q.verb = verb ∧ q.by_ = byl ∧ ws = whP q.wh ∧ ∀ x, x ∈ q.wh → okCnd x := by
  cases ws with
  | nil => cases h; exact ⟨rfl, rfl, rfl, by simp⟩
  | cons x r =>
    by_cases hx : x = whereW
    · subst hx
      rw [tailR_where] at h
      cases hw : whR 20 [] r with
      | error p => rw [hw] at h; cases h
      | ok cs =>
        rw [hw] at h
        cases h
        obtain ⟨c, l, h1, h2, h3⟩ := whR_inv hw
        simp only [List.nil_append] at h1
        subst h1
        refine ⟨rfl, rfl, ?_, h3⟩
        show whereW :: r = cW whereW c ++ l.flatMap (cW andW)
        rw [cW_cV, h2]; rfl
    · rw [tailR_bad hx] at h; cases h
theorem qryR_inv {ws : List Wd} {q : SQry} (h : qryR ws = .ok q) : OkQ q ∧ ws = hdP q ++ whP q.wh := by
  have hlen := qryR_len h
  cases ws with
  | nil => cases h
  | cons v ws =>
    by_cases hv : idxW vbL v < 0
    · rw [qryR_verb hv] at h; cases h
    · have hvb := idxW_bd vbL v
      have h2 : vbL.length = 2 := rfl
      have hvd : vbL.getD (idxW vbL v).toNat [] = v := idxW_get hv
      have go : ∀ {byl : List Int} {r : List Wd}, tailR (idxW vbL v) byl r = .ok q → (∀ k, k < byl.length → 0 ≤ byl.getD k 0 ∧ byl.getD k 0 ≤ 4) → (∀ k, k < byl.length → (byl.take k).contains (byl.getD k 0) = false) → OkQ q ∧ v :: (byP byl ++ r) = hdP q ++ whP q.wh := by
        intro byl r ht hb1 hb2
        obtain ⟨e1, e2, e3, e4⟩ := tailR_inv ht
        refine ⟨⟨by rw [e1]; omega, by rw [e1]; omega, hlen, by rw [e2]; exact hb1, by rw [e2]; exact hb2, e4⟩, ?_⟩
        unfold hdP
        rw [e1, e2, hvd, e3]; rfl
      cases ws with
      | nil =>
        rw [qryR_one hv] at h
        exact go h (by simp) (by simp)
      | cons b ws =>
        by_cases hb : b = byW
        · subst hb
          cases ws with
          | nil => rw [qryR_by0 hv] at h; cases h
          | cons f ws =>
            rw [qryR_by hv] at h
            cases hf : byR f with
            | error e => rw [hf] at h; cases h
            | ok l =>
              rw [hf] at h
              obtain ⟨j1, j2, j3⟩ := byR_ok hf
              have hne : l ≠ [] := by
                intro e
                unfold byR at hf
                split at hf
                · cases hf
                · split at hf
                  · cases hf
                  · cases hf
                    unfold byN at e
                    exact piecesL_ne 44 f (List.map_eq_nil_iff.1 e)
              have := go h j2 j3
              rwa [show byP l = [byW, f] by unfold byP; rw [if_neg hne, j1]] at this
        · rw [qryR_plain hv hb] at h
          exact go h (by simp) (by simp)
/-- a text that is read is the text of the result -/
theorem text_inv {s : Wd} {q : SQry} (h : qryR (piecesL 32 s) = .ok q) : OkQ q ∧ prT q = s := by
  obtain ⟨h1, h2⟩ := qryR_inv h
  refine ⟨h1, ?_⟩
  unfold prT
  rw [← h2]
  exact join_pieces 32 s
end Go.Proofs.YtfnlddloalineaaGreatDoor
namespace Go.Proofs.YtfnlddloalineaaGreatDoor
open Go.RowKit
set_option linter.unusedVariables false
set_option maxRecDepth 100000
theorem joinTail_mem (sep : Wd) : ∀ (r : List Wd) (x : Wd), x ∈ r → x.length ≤ (Lib.joinTail sep r).length := by
  intro r
  induction r with
  | nil => intro x h; simp at h
  | cons y r ih =>
    intro x h
    rw [joinTail_cons, List.length_append, List.length_append]
    rcases List.mem_cons.1 h with rfl | h
    · omega
    · have := ih x h; omega
theorem join_mem (sep : Wd) (xs : List Wd) (x : Wd) (h : x ∈ xs) : x.length ≤ (Lib.join xs sep).length := by
  cases xs with
  | nil => simp at h
  | cons y r =>
    rw [Lib.join_cons, List.length_append]
    rcases List.mem_cons.1 h with rfl | h
    · omega
    · have := joinTail_mem sep r x h; omega
theorem joinTail_len (c : UInt8) : ∀ (r : List Wd), r.length ≤ (Lib.joinTail [c] r).length := by
  intro r
  induction r with
  | nil => simp
  | cons y r ih =>
    rw [joinTail_cons, List.length_append, List.length_append]
    simp only [List.length_cons, List.length_nil]
    omega
theorem join_len (c : UInt8) (xs : List Wd) : xs.length ≤ (Lib.join xs [c]).length + 1 := by
  cases xs with
  | nil => simp
  | cons y r =>
    rw [Lib.join_cons, List.length_append]
    have := joinTail_len c r
    simp only [List.length_cons]
    omega
theorem prT_by (q : SQry) : (Lib.join (q.by_.map fdW) [44]).length ≤ (prT q).length ∧ q.by_.length ≤ (prT q).length + 1 := by
  have h1 : (Lib.join (q.by_.map fdW) [44]).length ≤ (prT q).length := by
    by_cases hb : q.by_ = []
    · rw [hb]; exact Nat.zero_le _
    · refine join_mem [32] _ _ ?_
      refine List.mem_append_left _ ?_
      unfold hdP byP
      rw [if_neg hb]
      simp
  have h2 := join_len 44 (q.by_.map fdW)
  rw [List.length_map] at h2
  exact ⟨h1, by omega⟩
theorem Reads.zeroQ (w : World) (B : Nat) (A : Option Addr) : Reads w B 3 A 0 (cndC []) := ⟨rfl, fun h => absurd h (by omega)⟩
theorem RdBy.zero (w : World) (B : Nat) (A : Option Addr) : RdBy w B A [] := fun h => absurd h (by simp)
set_option maxHeartbeats 8000000 in
theorem lawText (s0 : ByteArray) (w : World) (hE : Env w) (hEE : EnvE w) (hs : s0.size ≤ 9223372036854775807) : Calls Tryz.prog 5 #[.string s0] w fun e w' => e = .returned (.bool true) ∧ Below w.heap.size w w' := by
  obtain ⟨l, rfl⟩ : ∃ l : List UInt8, s0 = ⟨l.toArray⟩ := ⟨s0.data.toList, rfl⟩
  have HEB : Hid (∀ w_, Below w.heap.size w w_ → Env w_) := fun w_ h => hE.after h
  have HEEB : Hid (∀ w_, Below w.heap.size w w_ → EnvE w_) := fun w_ h => hEE.below h hE.size
  by_cases hl : l.length ≤ 600
  · have hln : decide ((600 : Int) < (l.length : Int)) = false := by rw [decide_eq_false_iff_not]; omega
    have HL := Lib.hid hl
    cases hq : qryR (piecesL 32 l) with
    | error p =>
      obtain ⟨r, E⟩ := p
      have hE0 : (E != 0) = true := by have := (qryR_suf hq).2; simpa using this
      have HP : Hid (∀ w, Env w → EnvE w → Calls Tryz.prog 12 #[.string ⟨l.toArray⟩] w fun e w' => e = .returned (.tuple #[.agg #[.int .i64 0, .slice none 0 0, .slice none 0 0], .int .i64 (plcR (piecesL 32 l) r l.length : Int), .int .i64 E]) ∧ Below w.heap.size w w') := fun w h1 h2 => (parse_any l w h1 h2 (by omega)).mono fun e w' h => by unfold ParSays at h; rw [hq] at h; exact h
      generalize plcR (piecesL 32 l) r l.length = PL at *
      clear hq
      go_enter Tryz.func5, Tryz.ntmps5
      go_wp2_with fail
      refine (awake_true _ hE hEE).mono ?_
      rintro e w1 ⟨rfl, hb⟩
      have HB1 := Lib.hid hb
      clear hb hE hEE
      go_wp2_with fail
      refine (HP.out _ (HEB.out _ HB1.out) (HEEB.out _ HB1.out)).mono ?_
      rintro e w2 ⟨rfl, hb⟩
      have HB2 := Lib.hid (below_two HB1.out hb)
      have HB3 := Lib.hid (HB2.out.alloc HB2.out.size (.cells (#[.int .i64 0, .slice none 0 0, .slice none 0 0] : Array Value) 26))
      have HFR := Lib.hid (from_any 0 [] none none 0 0 0 0 0 (w2.alloc (.cells (#[.int .i64 0, .slice none 0 0, .slice none 0 0] : Array Value) 26)) (Reads.zeroQ _ _ _) (Nat.zero_le _) (by omega))
      clear hb
      go_wp2_with fail
      refine HFR.out.mono ?_
      rintro e w4 ⟨A', c', rfl, ho, hb⟩
      have HB4 := Lib.hid (below_two HB3.out hb)
      have HSM := Lib.hid (same_yes 0 [] [] none A' none none 0 0 0 c' 0 0 0 w4 (Nat.zero_le _) (RdBy.zero _ _ _) (RdBy.zero _ _ _) (Reads.zeroQ _ _ _) (Reads.zeroQ _ _ _) rfl (by omega) (by omega))
      clear hb ho
      go_wp2_with fail
      refine HSM.out.mono ?_
      rintro e w5 ⟨rfl, hb⟩
      have HB5 := Lib.hid (below_two HB4.out hb)
      clear hb
      go_wp2_with fail
      go_ret
      exact ⟨rfl, HB5.out⟩
    | ok q =>
      obtain ⟨hok, ht⟩ := text_inv hq
      obtain ⟨hj1, hj2⟩ := prT_by q
      rw [ht] at hj1 hj2
      have HP : Hid (∀ w, Env w → EnvE w → Calls Tryz.prog 12 #[.string ⟨l.toArray⟩] w fun e w' => ∃ vb vw, e = .returned (.tuple #[.agg #[.int .i64 q.verb, vb, vw], .int .i64 0, .int .i64 0]) ∧ w'.ownsRow w.heap.size 3 1 vb q.by_.length (q.by_.map intV) ∧ w'.ownsRow w.heap.size 95 3 vw q.wh.length (cndC q.wh) ∧ Below w.heap.size w w') := fun w h1 h2 => (parse_any l w h1 h2 (by omega)).mono fun e w' h => by unfold ParSays at h; rw [hq] at h; exact h
      have HPR : Hid (∀ (Ab Aw : Option Addr) (nb nw cb cw : Nat) (b : Nat) (w1 : World), nb = q.by_.length → nw = q.wh.length → Env w1 → w1.ownsRow b 3 1 (.slice Ab nb cb) nb (q.by_.map intV) → w1.ownsRow b 95 3 (.slice Aw nw cw) nw (cndC q.wh) → Calls Tryz.prog 17 #[.agg #[.int .i64 q.verb, .slice Ab nb cb, .slice Aw nw cw]] w1 fun e w' => e = .returned (.tuple #[.string ⟨l.toArray⟩, .int .i64 0]) ∧ Below w1.heap.size w1 w') := by
        intro Ab Aw nb nw cb cw b w1 e1 e2 h1 h2 h3
        subst e1 e2
        have h := print_yes q Ab Aw _ _ cb cw w1.heap.size w1 h1 hok (RdBy.of_own h2) rfl (own_capQ h2) (Reads.of_own h3) (Nat.le_refl _) (by omega) (by rw [ht]; omega) (by omega)
        rw [ht] at h
        exact h
      obtain ⟨nb, hnb⟩ : ∃ nb, q.by_.length = nb := ⟨_, rfl⟩
      obtain ⟨nw, hnw⟩ : ∃ nw, q.wh.length = nw := ⟨_, rfl⟩
      rw [hnb, hnw] at HP
      have HNB := Lib.hid hnb
      have HNW := Lib.hid hnw
      generalize q.verb = V at *
      generalize q.by_.map intV = LB at *
      generalize cndC q.wh = LW at *
      have q1 : (l == l) = true := by simp
      clear hok ht hj1 hj2 hq hnb hnw
      go_enter Tryz.func5, Tryz.ntmps5
      go_wp2_with fail
      refine (awake_true _ hE hEE).mono ?_
      rintro e w1 ⟨rfl, hb⟩
      have HB1 := Lib.hid hb
      clear hb hE hEE
      go_wp2_with fail
      refine (HP.out _ (HEB.out _ HB1.out) (HEEB.out _ HB1.out)).mono ?_
      rintro e w2 ⟨vb, vw, rfl, ho1, ho2, hb⟩
      obtain ⟨Ab, cb, rfl⟩ := own_slice ho1
      obtain ⟨Aw, cw, rfl⟩ := own_slice ho2
      have hb2 := below_two HB1.out hb
      have hb3 := hb2.alloc hb2.size (.cells (#[.int .i64 V, .slice Ab nb cb, .slice Aw nw cw] : Array Value) 26)
      have HB3 := Lib.hid hb3
      have HPX := Lib.hid (HPR.out Ab Aw nb nw cb cw w1.heap.size _ HNB.out.symm HNW.out.symm (HEB.out _ hb3) (ho1.alloc _) (ho2.alloc _))
      clear hb hb2 hb3 ho1 ho2
      go_wp2_with fail
      refine HPX.out.mono ?_
      rintro e w4 ⟨rfl, hb⟩
      have HB4 := Lib.hid (below_two HB3.out hb)
      clear hb
      go_wp2_with fail
      go_ret
      exact ⟨rfl, HB4.out⟩
  · have hln : decide ((600 : Int) < (l.length : Int)) = true := by rw [decide_eq_true_eq]; omega
    go_enter Tryz.func5, Tryz.ntmps5
    go_wp2_with fail
    refine (awake_true _ hE hEE).mono ?_
    rintro e w1 ⟨rfl, hb1⟩
    have HB1 := Lib.hid hb1
    clear hb1 hE hEE
    go_wp2_with fail
    refine (awake_true _ (HEB.out _ HB1.out) (HEEB.out _ HB1.out)).mono ?_
    rintro e w2 ⟨rfl, hb2⟩
    have HB2 := Lib.hid (below_two HB1.out hb2)
    clear hb2
    go_wp2_with fail
    go_ret
    exact ⟨rfl, HB2.out⟩
end Go.Proofs.YtfnlddloalineaaGreatDoor
