/-
  The law MoneySum.
-/
import Derived.Test.YtaibaooebplehaaDoorMonW8
import Derived.WalkSpells
namespace Go.Proofs.YtaibaooebplehaaDoor
open Go.RowKit
set_option linter.unusedVariables false
theorem info_int : (Tryd.prog.info? 3).map (fun i => (i.zero, i.size, i.bytes)) = some (some (.int .i64 0), 1, 8) := by kernel_rfl
theorem own_slice {w : World} {base : Nat} {e : TypeId} {size n : Nat} {v : Value} {xs : List Value} (h : w.ownsRow base e size v n xs) : ∃ A c, v = .slice A n c := by
  obtain ⟨_, h⟩ := h
  rcases h with ⟨rfl, rfl⟩ | ⟨g, cap, cur, rfl, _⟩
  · exact ⟨_, _, rfl⟩
  · exact ⟨_, _, rfl⟩
theorem own_base {w : World} {base : Nat} {e : TypeId} {size n : Nat} {v : Value} {xs : List Value} (h : w.ownsRow base e size v n xs) : ∀ k, v.ownBlock = some k → base ≤ k := by
  intro k hk
  obtain ⟨_, h⟩ := h
  rcases h with ⟨rfl, rfl⟩ | ⟨g, cap, cur, rfl, hb, _⟩
  · cases hk
  · cases hk; exact hb
theorem reads_lit (w : World) (cs : Array Value) (T : TypeId) : Reads (w.alloc (.cells cs T)) (w.heap.size + 1) 1 (some ⟨w.heap.size, 0, none⟩) cs.size cs.toList := by
  refine ⟨by simp, fun _ => ⟨_, rfl, Nat.lt_succ_self _, fun j u hj => ?_⟩⟩
  have hb := Blk.new w T cs
  have e : (⟨w.heap.size, 0, none⟩ : Addr).add j = ⟨w.heap.size, j, none⟩ := by unfold Addr.add; split <;> simp_all
  rw [e, hb.cell j, ← hj]
  simp
theorem sm_reverse (zs : List Int) : sm1 zs.reverse = sm1 zs ∧ sm2 zs.reverse = sm2 zs := by
  unfold sm1 sm2 allOk
  rw [List.all_reverse, List.sum_reverse]
  exact ⟨rfl, rfl⟩
theorem rev_step {zs : List Int} {m n : Nat} (hl : zs.length = n) (h : m < n) : (zs.reverse.take (n - (m + 1))).map (Value.int .i64) ++ [.int .i64 (zs.getD m 0)] = (zs.reverse.take (n - m)).map (Value.int .i64) := by
  have e : n - m = (n - (m + 1)) + 1 := by omega
  rw [e, List.take_succ_eq_append_getElem (by rw [List.length_reverse]; omega), List.map_append]
  congr 1
  simp only [List.map_cons, List.map_nil, List.getElem_reverse]
  congr 2
  have : zs.length - 1 - (n - (m + 1)) = m := by omega
  simp only [this]
  simp [List.getD, show m < zs.length by omega]
theorem ints_one (zs : List Int) : ∀ u ∈ zs.map (Value.int .i64), u.oneCell' = true := by
  intro u hu
  obtain ⟨z, _, rfl⟩ := List.mem_map.1 hu
  rfl
set_option maxHeartbeats 1000000 in
theorem lawSum (zs : List Int) (A : Option Addr) (n c : Nat) (w : World) (hE : Env w) (hr : Reads w w.heap.size 1 A n (zs.map (Value.int .i64))) (hn63 : n ≤ 9223372036854775807) :
    Calls Tryd.prog 8 #[.slice A n c] w fun e w' => e = .returned (.bool true) ∧ Below w.heap.size w w' := by
  have HR := Lib.hid hr
  clear hr
  obtain ⟨i0, hi0, hz0, hz1, hz2⟩ := info_parts info_int
  by_cases hn : 300 < n
  · go_enter Tryd.func8, Tryd.ntmps8
    go_wp2_with fail
    refine (awake_true _ hE).mono ?_
    rintro e w1 ⟨rfl, hb⟩
    go_wp2_with fail
    go_ret
    exact ⟨rfl, hb⟩
  · have hn' : n ≤ 300 := by omega
    have hnd : decide (300 < n) = false := by simp; omega
    clear hn
    go_enter Tryd.func8, Tryd.ntmps8
    go_wp2_with fail
    refine (awake_true _ hE).mono ?_
    rintro e w1 ⟨rfl, hb⟩
    have HW := Lib.hid hb
    go_wp2_with (at_builtin; refine wpList_append_any _ rfl (.tmp 17) (.tmp 18) _ rfl w.heap.size 3 i0 _ 1 8 Tryd.underlying34 hi0 hz0 hz1 hz2 rfl (by omega) _ 0 [] rfl (World.ownsRow_lit w1 #[] 0 hb.size (by decide) rfl) w.heap.size A n c (zs.map (Value.int .i64)) rfl ((HR.out.below hb).alloc hb.size _) (ints_one zs) (by simp only [maxLen]; omega) (by omega) (by simp only [World.size_alloc]; have := hb.size; omega) ?_; intro v1 w2 hown1 hg1 hat1)
    have hown1' : w2.ownsRow w.heap.size 3 1 v1 n (zs.map (Value.int .i64)) := by simpa using hown1
    have hbw : Below w.heap.size w w2 := (hb.alloc hb.size _).grown hg1 (by simp only [World.size_alloc]; have := hb.size; omega) (own_base (e := 3) (World.ownsRow_lit (size := 1) w1 #[] 0 hb.size (by decide) rfl))
    clear hown1 hg1 hat1 hb HW
    obtain ⟨A1, c1, hv1⟩ := own_slice hown1'
    rw [hv1] at hown1' ⊢
    clear hv1
    refine (moneySum_any zs A1 n c1 _ _ (Reads.of_own hown1') hn').mono ?_
    rintro e w' ⟨rfl, rfl⟩
    clear hown1'
    have HL := Lib.hid HR.out.int_len
    go_wp2_with fail
    go_loopw [5, 6] (fun v i wr => ∃ m : Nat, m ≤ n ∧ i = .int .i64 ((m : Int) - 1) ∧ wr.ownsRow w.heap.size 3 1 v (n - m) ((zs.reverse.take (n - m)).map (Value.int .i64)) ∧ Below w.heap.size w wr) (fun _ i _ => (intOf i + 1).toNat)
    case atStart =>
      refine ⟨n, Nat.le_refl _, rfl, ?_, hbw⟩
      rw [Nat.sub_self]
      exact World.ownsRow_nil _ _ _ _
    case round =>
      obtain ⟨m, hm, rfl, hown, hbr⟩ := hrel
      obtain ⟨wo, rfl⟩ : ∃ wo : World, wo = wr := ⟨_, rfl⟩
      cases m with
      | zero =>
        obtain ⟨A2, c2, hv2⟩ := own_slice hown
        rw [hv2] at hown ⊢
        have hown2 : wo.ownsRow w.heap.size 3 1 (.slice A2 n c2) n (zs.reverse.map (Value.int .i64)) := by
          have := hown
          rwa [Nat.sub_zero, List.take_of_length_le (by rw [List.length_reverse, HL.out]; omega)] at this
        clear hown hv2
        have HO := Lib.hid hown2
        clear hown2
        go_wp2_with fail
        refine (moneySum_any zs.reverse A2 n c2 _ _ (Reads.of_own HO.out) hn').mono ?_
        rintro e w' ⟨rfl, rfl⟩
        rw [(sm_reverse zs).1, (sm_reverse zs).2]
        go_wp2_with fail
        refine (total_any zs A n c _ _ (HR.out.below hbr) hn').mono ?_
        rintro e w' ⟨rfl, rfl⟩
        go_wp2_with fail
        go_ret
        exact ⟨rfl, hbr⟩
      | succ m =>
        obtain ⟨ad, rfl, hblk, hcell⟩ := (HR.out.below hbr).int_at (k := m) (by omega)
        have hstep := rev_step (zs := zs) (m := m) (n := n) HL.out (by omega)
        have HS := Lib.hid hstep
        clear hstep
        generalize hz : zs.getD m 0 = z at *
        clear hz
        have ei : ((m + 1 : Nat) : Int) - 1 = (m : Int) := by omega
        rw [ei]
        clear ei
        have hm0 : (0 : Int) ≤ (m : Int) := by omega
        go_wp2_with (at_builtin; refine wpList_append_any _ rfl (.tmp 30) (.tmp 35) _ rfl w.heap.size 3 i0 _ 1 8 Tryd.underlying34 hi0 hz0 hz1 hz2 rfl (by omega) _ (n - (m + 1)) _ rfl (hown.alloc _) (wo.heap.size + 1) (some ⟨wo.heap.size, 0, none⟩) 1 1 [.int .i64 z] rfl (reads_lit wo #[.int .i64 z] _) (ints_one [z]) (by simp only [maxLen]; omega) (by omega) (by simp only [World.size_alloc]; have := hbr.size; omega) ?_; intro v3 w3 hown3 hg3 hat3)
        refine ⟨⟨m, by omega, rfl, ?_, (hbr.alloc hbr.size _).grown hg3 (by simp only [World.size_alloc]; have := hbr.size; omega) (own_base hown)⟩, by simp [intOf]⟩
        have h3 := hown3
        rw [HS.out, show n - (m + 1) + 1 = n - m from by omega] at h3
        exact h3
end Go.Proofs.YtaibaooebplehaaDoor
