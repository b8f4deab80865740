/-
  Dates: the text of a date, of the program.
-/
import Derived.Test.YtfnlddloalineaaGreatDoorDatW5
import Derived.Test.YtfnlddloalineaaGreatDoorOwn2
import Derived.Laws.IdiomStrings
namespace Go.Proofs.YtfnlddloalineaaGreatDoor
open Go.RowKit
set_option linter.unusedVariables false
def twoL (k : Int) : List UInt8 := [UInt8.ofNat (48 + k / 10).toNat, UInt8.ofNat (48 + k % 10).toNat]
def ymdT (y m d : Int) : List UInt8 := twoL (y / 100) ++ twoL (y % 100) ++ [45] ++ twoL m ++ [45] ++ twoL d
/-- the year, the month and the day of a date -/
def civO (n : Int) : Option (Int × Int × Int) :=
  ((List.range 300).flatMap fun (y : Nat) => (List.range 12).flatMap fun (m : Nat) => (List.range 31).map fun (d : Nat) => ((y : Int) + 1900, (m : Int) + 1, (d : Int) + 1)).find? fun p => dayOk p.1 p.2.1 p.2.2 && (dayN p.1 p.2.1 p.2.2 == n)
theorem civO_of {y m d : Int} (h : dayOk y m d = true) : civO (dayN y m d) = some (y, m, d) := by
  obtain ⟨hy, hm, hd⟩ := dayOk_in h
  have hmem : (y, m, d) ∈ ((List.range 300).flatMap fun (y : Nat) => (List.range 12).flatMap fun (m : Nat) => (List.range 31).map fun (d : Nat) => ((y : Int) + 1900, (m : Int) + 1, (d : Int) + 1)) := by
    rw [List.mem_flatMap]
    refine ⟨(y - 1900).toNat, List.mem_range.2 (by omega), ?_⟩
    rw [List.mem_flatMap]
    refine ⟨(m - 1).toNat, List.mem_range.2 (by omega), ?_⟩
    rw [List.mem_map]
    refine ⟨(d - 1).toNat, List.mem_range.2 (by omega), ?_⟩
    rw [Prod.mk.injEq, Prod.mk.injEq]
    exact ⟨by omega, by omega, by omega⟩
  unfold civO
  cases hf : List.find? (fun p : Int × Int × Int => dayOk p.1 p.2.1 p.2.2 && (dayN p.1 p.2.1 p.2.2 == dayN y m d)) ((List.range 300).flatMap fun (y : Nat) => (List.range 12).flatMap fun (m : Nat) => (List.range 31).map fun (d : Nat) => ((y : Int) + 1900, (m : Int) + 1, (d : Int) + 1)) with
  | none =>
    rw [List.find?_eq_none] at hf
    have := hf _ hmem
    simp [h] at this
  | some p =>
    have hp := List.find?_some hf
    rw [Bool.and_eq_true, beq_iff_eq] at hp
    obtain ⟨e1, e2, e3⟩ := dayN_inj hp.1 h hp.2
    obtain ⟨a, b, c⟩ := p
    simp only [] at e1 e2 e3
    rw [e1, e2, e3]
theorem civO_no {n : Int} (h : dateB n = false) : civO n = none := by
  unfold civO
  rw [List.find?_eq_none]
  rintro ⟨a, b, c⟩ _ hp
  rw [Bool.and_eq_true, beq_iff_eq] at hp
  simp only [] at hp
  have := dayN_bd hp.1
  rw [hp.2] at this
  unfold dateB at h
  rw [decide_eq_true this.1, decide_eq_true this.2] at h
  cases h
def datT (n : Int) : List UInt8 := match civO n with
  | some (y, m, d) => ymdT y m d
  | none => []
theorem datT_of {y m d : Int} (h : dayOk y m d = true) : datT (dayN y m d) = ymdT y m d := by unfold datT; rw [civO_of h]
theorem datT_no {n : Int} (h : dateB n = false) : datT n = [] := by unfold datT; rw [civO_no h]
def u8V (b : UInt8) : Value := .int .u8 (b.toNat : Int)
theorem u8_one (l : List UInt8) : ∀ u ∈ l.map u8V, u.oneCell' = true := by
  intro u hu
  obtain ⟨z, _, rfl⟩ := List.mem_map.1 hu
  rfl
theorem info_u8 : (Tryz.prog.info? 5).map (fun i => (i.zero, i.size, i.bytes)) = some (some (.int .u8 0), 1, 1) := by kernel_rfl
theorem dig_val {k : Int} (h0 : 0 ≤ k) (h1 : k ≤ 9) : u8V (UInt8.ofNat (48 + k).toNat) = .int .u8 (48 + k) := by
  unfold u8V
  have hz : (48 + k).toNat < UInt8.size := Nat.lt_of_lt_of_le (show (48 + k).toNat < 60 by omega) (by decide)
  have e : (UInt8.ofNat (48 + k).toNat).toNat = (48 + k).toNat := UInt8.toNat_ofNat_of_lt' hz
  rw [e, show (((48 + k).toNat : Nat) : Int) = 48 + k by omega]
set_option maxRecDepth 100000 in
set_option maxHeartbeats 2000000 in
theorem two_any (v : Value) (bs : List UInt8) (k : Int) (base : Nat) (w : World) (hown : w.ownsRow base 5 1 v bs.length (bs.map u8V)) (h0 : 0 ≤ k) (h1 : k ≤ 99) (hbs : bs.length ≤ 20) (hbase : base ≤ w.heap.size) :
    Calls Tryz.prog 107 #[v, .int .i64 k] w fun e w' => ∃ v', e = .returned v' ∧ w'.ownsRow base 5 1 v' (bs ++ twoL k).length ((bs ++ twoL k).map u8V) ∧ Below base w w' := by
  obtain ⟨i0, hi0, hz0, hz1, hz2⟩ := info_parts info_u8
  obtain ⟨A, c, rfl⟩ := own_slice hown
  have HO := Lib.hid hown
  clear hown
  have e1 := Lib.hid (dig_val (k := k / 10) (by omega) (by omega))
  have e2 := Lib.hid (dig_val (k := k % 10) (by omega) (by omega))
  have d1 : (0 : Int) ≤ k / 10 := by omega
  have d2 : k / 10 ≤ 9 := by omega
  have d3 : (0 : Int) ≤ k % 10 := by omega
  have d4 : k % 10 ≤ 9 := by omega
  have F : Hid ((bs ++ twoL k).map u8V = bs.map u8V ++ [.int .u8 (48 + k / 10), .int .u8 (48 + k % 10)]) := by
    show _ = _
    rw [List.map_append]
    show _ ++ [u8V _, u8V _] = _
    rw [e1.out, e2.out]
  have F2 : Hid ((bs ++ twoL k).length = bs.length + 2) := by show _ = _; rw [List.length_append]; rfl
  have H1 : Hid (∀ u ∈ ([.int .u8 (48 + k / 10), .int .u8 (48 + k % 10)] : List Value), u.oneCell' = true) := by
    show ∀ _, _
    intro u hu
    simp only [List.mem_cons, List.not_mem_nil, or_false] at hu
    rcases hu with rfl | rfl <;> rfl
  go_enter Tryz.func107, Tryz.ntmps107
  go_wp2_with (at_builtin; refine wpList_append_any _ rfl (.tmp 5) (.tmp 14) _ rfl base 5 i0 _ 1 1 Tryz.underlying76 hi0 hz0 hz1 hz2 rfl (by omega) _ bs.length (bs.map u8V) rfl (HO.out.alloc _) (w.heap.size + 1) (some ⟨w.heap.size, 0, none⟩) 2 2 [.int .u8 (48 + k / 10), .int .u8 (48 + k % 10)] rfl (reads_lit w #[.int .u8 (48 + k / 10), .int .u8 (48 + k % 10)] 5) H1.out (by simp only [maxLen]; omega) (by omega) (by simp only [World.size_alloc]; omega) ?_; intro v4 w4 hown4 hg4 hat4)
  have HB4 := Lib.hid ((((Below.refl base w).alloc hbase (.cells (#[.int .u8 (48 + k / 10), .int .u8 (48 + k % 10)] : Array Value) 5))).grown hg4 (by simp only [World.size_alloc]; omega) (fun k hk => own_base HO.out k hk))
  go_wp2_with fail
  go_ret
  exact ⟨_, rfl, by rw [F.out, F2.out]; exact hown4, HB4.out⟩
end Go.Proofs.YtfnlddloalineaaGreatDoor
