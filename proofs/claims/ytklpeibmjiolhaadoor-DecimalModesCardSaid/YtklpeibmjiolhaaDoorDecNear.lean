/-
  The nearest integer: plain laws.
-/
import Derived.Test.YtklpeibmjiolhaaDoorDecW11
namespace Go.Proofs.YtklpeibmjiolhaaDoor
/-- to the nearest: within a half -/
theorem fI_near {m : Int} (hm : m = 0 ∨ m = 1) (neg : Bool) {a d : Int} (hd : 0 < d) : -d ≤ 2 * (fI m neg a d * d) - 2 * a ∧ 2 * (fI m neg a d * d) - 2 * a ≤ d := by
  have h1 := Int.mul_ediv_add_emod a d
  have r1 := Int.emod_nonneg a (show d ≠ 0 by omega)
  have r2 := Int.emod_lt_of_pos a hd
  have e : d * (a / d) = a / d * d := Int.mul_comm _ _
  have e1 : (a / d + 1) * d = a / d * d + d := by rw [Int.add_mul, Int.one_mul]
  unfold fI
  cases hb : more m neg (a / d) (a % d) d
  · simp only [Bool.false_and, Bool.false_eq_true, if_false]
    have : 2 * (a % d) ≤ d := by
      unfold more at hb
      rcases hm with rfl | rfl
      · simp at hb; omega
      · simp at hb; omega
    omega
  · have : d ≤ 2 * (a % d) := by
      unfold more at hb
      rcases hm with rfl | rfl
      · simp at hb; exact hb
      · simp at hb; omega
    rw [decide_eq_true (show 0 < a % d by omega)]
    simp only [Bool.and_self, if_true]
    omega
theorem rdI_near {m : Int} (hm : m = 0 ∨ m = 1) {x d : Int} (hd : 0 < d) : -d ≤ 2 * (rdI x d m * d) - 2 * x ∧ 2 * (rdI x d m * d) - 2 * x ≤ d := by
  by_cases hx : x < 0
  · rw [rdI_neg hx hd]
    have := fI_near hm true (a := -x) hd
    have e : -fI m true (-x) d * d = -(fI m true (-x) d * d) := Int.neg_mul _ _
    omega
  · rw [rdI_pos (by omega) hd]
    exact fI_near hm false hd
theorem rdI_bd {x d M : Int} (m : Int) (hd : 0 < d) (h : -M ≤ x ∧ x ≤ M) : -(M + 1) ≤ rdI x d m ∧ rdI x d m ≤ M + 1 := by
  by_cases hx : x < 0
  · rw [rdI_neg hx hd]
    have b := fI_bd m true (-x) d
    have := Int.ediv_le_self d (show 0 ≤ -x by omega)
    have := Int.ediv_nonneg (show 0 ≤ -x by omega) (show 0 ≤ d by omega)
    omega
  · rw [rdI_pos (by omega) hd]
    have b := fI_bd m false x d
    have := Int.ediv_le_self d (show 0 ≤ x by omega)
    have := Int.ediv_nonneg (show 0 ≤ x by omega) (show 0 ≤ d by omega)
    omega
/-- rescaling to a scale that is not greater -/
theorem rs_down {n f t m : Int} (hm : 0 ≤ m ∧ m ≤ 5) (ht : 0 ≤ t) (hf : t ≤ f) (h9 : f ≤ 9) (hn : -1000000000000000 ≤ n ∧ n ≤ 1000000000000000) :
    rsE n f t m = 0 ∧ rsV n f t m = rdI n (pw (f - t)) m := by
  have o : (okMode m && okSc t) = true := by rw [okMode_iff.2 hm, okSc_iff.2 ⟨ht, by omega⟩]; rfl
  have o2 : okDec n f = true := okDec_iff.2 ⟨hn, by omega, h9⟩
  by_cases hl : t < f
  · exact rs_less o o2 hl
  · obtain rfl : t = f := by omega
    have e0 : pw (t - t) = 1 := by rw [Int.sub_self]; rfl
    obtain ⟨a, b⟩ := rs_more (n := n) (f := t) (t := t) (m := m) o o2 hl (by rw [e0, Int.mul_one]; exact okNo_iff.2 hn)
    refine ⟨a, ?_⟩
    rw [b, e0, Int.mul_one]
    have := rdI_exact (n := n) (P := 1) m (by omega)
    rw [Int.mul_one] at this
    exact this.symm
def rsum (P m : Int) (zs : List Int) : Int := (zs.map fun x => rdI x P m).sum
theorem rsum_near {P m : Int} (hm : m = 0 ∨ m = 1) (hP : 0 < P) : ∀ zs : List Int, -((zs.length : Int) * P) ≤ 2 * (rsum P m zs * P) - 2 * zs.sum ∧ 2 * (rsum P m zs * P) - 2 * zs.sum ≤ (zs.length : Int) * P
  | [] => by simp [rsum]
  | z :: r => by
    have ih := rsum_near hm hP r
    have hz := rdI_near hm (x := z) hP
    have e1 : rsum P m (z :: r) = rdI z P m + rsum P m r := by simp [rsum]
    have e2 : (rdI z P m + rsum P m r) * P = rdI z P m * P + rsum P m r * P := Int.add_mul _ _ _
    have e3 : ((z :: r).length : Int) * P = (r.length : Int) * P + P := by rw [List.length_cons, Int.natCast_add, Int.add_mul]; simp
    rw [e1, e2, e3, List.sum_cons]
    omega
/-- the sum of the rounded, and the rounded sum -/
theorem rsum_whole {P m : Int} (hm : m = 0 ∨ m = 1) (hP : 0 < P) (zs : List Int) : 2 * absI (rsum P m zs - rdI zs.sum P m) ≤ (zs.length : Int) + 1 := by
  have h1 := rsum_near hm hP zs
  have h2 := rdI_near hm (x := zs.sum) hP
  generalize rsum P m zs = a at *
  generalize rdI zs.sum P m = b at *
  generalize (zs.length : Int) = n at *
  have e : (a - b) * P = a * P - b * P := Int.sub_mul _ _ _
  have e2 : (n + 1) * P = n * P + P := by rw [Int.add_mul, Int.one_mul]
  have k1 : 2 * ((a - b) * P) ≤ (n + 1) * P := by omega
  have k2 : -((n + 1) * P) ≤ 2 * ((a - b) * P) := by omega
  have l1 : 2 * (a - b) ≤ n + 1 := Int.le_of_mul_le_mul_right (by rw [Int.mul_assoc]; exact k1) hP
  have l2 : -(n + 1) ≤ 2 * (a - b) := Int.le_of_mul_le_mul_right (by rw [Int.mul_assoc, Int.neg_mul]; exact k2) hP
  unfold absI
  split <;> omega
theorem sum32_bd : ∀ (zs : List Int), (∀ z ∈ zs, -2147483648 ≤ z ∧ z ≤ 2147483647) → -(2147483648 * (zs.length : Int)) ≤ zs.sum ∧ zs.sum ≤ 2147483648 * (zs.length : Int)
  | [], _ => by simp
  | z :: r, h => by
    have ih := sum32_bd r fun y hy => h y (List.mem_cons_of_mem _ hy)
    have hz := h z (List.mem_cons_self ..)
    rw [List.sum_cons, List.length_cons]
    omega
theorem rsum_bd {P m : Int} (hP : 0 < P) : ∀ (zs : List Int), (∀ z ∈ zs, -2147483648 ≤ z ∧ z ≤ 2147483647) → -(2147483649 * (zs.length : Int)) ≤ rsum P m zs ∧ rsum P m zs ≤ 2147483649 * (zs.length : Int)
  | [], _ => by simp [rsum]
  | z :: r, h => by
    have ih := rsum_bd (m := m) hP r fun y hy => h y (List.mem_cons_of_mem _ hy)
    have hz := h z (List.mem_cons_self ..)
    have hb := rdI_bd (M := 2147483648) m hP (show -2147483648 ≤ z ∧ z ≤ 2147483648 by omega)
    have e1 : rsum P m (z :: r) = rdI z P m + rsum P m r := by simp [rsum]
    rw [e1, List.length_cons]
    omega
theorem rsum_succ {P m : Int} {zs : List Int} {k : Nat} (hk : k < zs.length) : rsum P m (zs.take (k + 1)) = rsum P m (zs.take k) + rdI (zs.getD k 0) P m := by
  unfold rsum
  rw [List.take_succ_eq_append_getElem hk, List.map_append, List.sum_append]
  simp [List.getD, hk]
theorem take_sum_succ {zs : List Int} {k : Nat} (hk : k < zs.length) : (zs.take (k + 1)).sum = (zs.take k).sum + zs.getD k 0 := by
  rw [List.take_succ_eq_append_getElem hk, List.sum_append]
  simp [List.getD, hk]
end Go.Proofs.YtklpeibmjiolhaaDoor
