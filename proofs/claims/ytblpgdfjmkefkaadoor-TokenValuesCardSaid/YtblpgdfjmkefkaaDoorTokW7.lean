/-
  The reference's next.
-/
import Derived.Test.YtblpgdfjmkefkaaDoorTokW6
import Derived.Test.YtblpgdfjmkefkaaDoorOwn
namespace Go.Proofs.YtblpgdfjmkefkaaDoor
open Go.RowKit
set_option linter.unusedVariables false
def refTok (l : List UInt8) (a : Nat) : Tok := if (nextL (l.drop a)).1 = 0 then ⟨0, [], 0⟩ else ⟨(nextL (l.drop a)).1, (l.drop a).take (nextL (l.drop a)).2, a⟩
def tokV (t : Tok) : Value := .agg #[.int .i64 t.kind, .string ⟨t.text.toArray⟩, .int .i64 t.from_]
theorem drop_getD0 (l : List UInt8) (a k : Nat) : (l.drop a).getD k 0 = l.getD (a + k) 0 := by simp [List.getD, List.getElem?_drop]
theorem refTok_run {l : List UInt8} {a q : Nat} {p : UInt8 → Bool} (h1 : a ≤ q) (h2 : q ≤ l.length) (ha : ((l.drop a).take (q - a)).all p = true) (hs : q < l.length → p (l.getD q 0) = false) : runL p (l.drop a) = q - a := by
  refine runL_eq (by rw [List.length_drop]; omega) ha fun h => ?_
  rw [List.length_drop] at h
  rw [drop_getD0, show a + (q - a) = q from by omega]
  exact hs (by omega)
theorem ret_v {a b : Value} (h : a = b) : Ending.returned a = .returned b := by rw [h]
theorem all_step {l : List UInt8} {a q : Nat} {p : UInt8 → Bool} (h1 : a ≤ q) (h2 : q < l.length) (ha : ((l.drop a).take (q - a)).all p = true) (hp : p (l.getD q 0) = true) : ((l.drop a).take (q + 1 - a)).all p = true := by
  rw [show q + 1 - a = (q - a) + 1 from by omega]
  exact take_all_succ (by rw [List.length_drop]; omega) ha (by rw [drop_getD0, show a + (q - a) = q from by omega]; exact hp)
def dblLit : Array Value := #[Value.string { data := #[46, 46] }, Value.string { data := #[60, 61] }, Value.string { data := #[62, 61] }, Value.string { data := #[33, 61] }]
theorem refInD (x : List UInt8) (w0 : World) : Calls Tryd.prog 27 #[.slice (some ⟨w0.heap.size, 0, none⟩) 4 4, .string ⟨x.toArray⟩] (w0.alloc (.cells #[Value.string { data := #[46, 46] }, Value.string { data := #[60, 61] }, Value.string { data := #[62, 61] }, Value.string { data := #[33, 61] }] 9)) fun e w' => e = .returned (.bool (inL dbls x)) ∧ w0.alloc (.cells #[Value.string { data := #[46, 46] }, Value.string { data := #[60, 61] }, Value.string { data := #[62, 61] }, Value.string { data := #[33, 61] }] 9) = w' :=
  refIn_any dbls _ 4 4 _ x _ (reads_lit w0 #[Value.string { data := #[46, 46] }, Value.string { data := #[60, 61] }, Value.string { data := #[62, 61] }, Value.string { data := #[33, 61] }] 9) (by omega)
def sglL : List (List UInt8) := sgls.map fun c => [c]
theorem refInS (x : List UInt8) (w0 : World) : Calls Tryd.prog 27 #[.slice (some ⟨w0.heap.size, 0, none⟩) 12 12, .string ⟨x.toArray⟩] (w0.alloc (.cells #[Value.string { data := #[123] }, Value.string { data := #[125] }, Value.string { data := #[40] }, Value.string { data := #[41] }, Value.string { data := #[44] }, Value.string { data := #[59] }, Value.string { data := #[61] }, Value.string { data := #[43] }, Value.string { data := #[45] }, Value.string { data := #[42] }, Value.string { data := #[60] }, Value.string { data := #[62] }] 9)) fun e w' => e = .returned (.bool (inL sglL x)) ∧ w0.alloc (.cells #[Value.string { data := #[123] }, Value.string { data := #[125] }, Value.string { data := #[40] }, Value.string { data := #[41] }, Value.string { data := #[44] }, Value.string { data := #[59] }, Value.string { data := #[61] }, Value.string { data := #[43] }, Value.string { data := #[45] }, Value.string { data := #[42] }, Value.string { data := #[60] }, Value.string { data := #[62] }] 9) = w' :=
  refIn_any sglL _ 12 12 _ x _ (reads_lit w0 #[Value.string { data := #[123] }, Value.string { data := #[125] }, Value.string { data := #[40] }, Value.string { data := #[41] }, Value.string { data := #[44] }, Value.string { data := #[59] }, Value.string { data := #[61] }, Value.string { data := #[43] }, Value.string { data := #[45] }, Value.string { data := #[42] }, Value.string { data := #[60] }, Value.string { data := #[62] }] 9) (by omega)
theorem inS_one {l : List UInt8} {a : Nat} (h : a < l.length) : inL sglL ((l.drop a).take 1) = sgls.contains (l.getD a 0) := by
  rw [drop_getD h, List.take_succ_cons, List.take_zero]
  generalize l.getD a 0 = c
  unfold inL sglL
  rw [Bool.eq_iff_iff, List.contains_iff_mem, List.contains_iff_mem, List.mem_map]
  constructor
  · rintro ⟨b, hb, he⟩; simp at he; subst he; exact hb
  · intro hc; exact ⟨c, hc, rfl⟩
theorem tok_of {l : List UInt8} {a q : Nat} {kd : Int} (h0 : (kd == 0) = false) (hq : a ≤ q) (hn : nextL (l.drop a) = (kd, q - a)) : Value.agg #[.int .i64 kd, .string ⟨((l.take q).drop a).toArray⟩, .int .i64 a] = tokV (refTok l a) := by
  unfold refTok
  rw [hn]
  have : ¬ kd = 0 := by simpa using h0
  rw [if_neg this, List.drop_take]
  rfl
set_option maxRecDepth 100000 in
set_option maxHeartbeats 2000000 in
theorem refNext_name (l : List UInt8) (a : Nat) (w : World) (ha : a < l.length) (hl : l.length ≤ 9000) (V : Value) (HV : Hid (tokV (refTok l a) = V)) (hsz : a < (⟨l.toArray⟩ : ByteArray).size) (q1 : lowI ((⟨l.toArray⟩ : ByteArray)[a]'hsz).toNat = true) (HN1 : Hid (nextL (l.drop a) = (1, runL isNam (l.drop a)))) :
    Calls Tryd.prog 22 #[.string ⟨l.toArray⟩, .int .i64 a] w fun e w' => e = .returned V ∧ Below w.heap.size w w' := by
  go_enter Tryd.func22, Tryd.ntmps22
  go_wp2_with fail
  refine (refLetter_any _ _).mono ?_
  rintro e wx ⟨rfl, rfl⟩
  rw [q1]
  go_wp2_with fail
  go_loop [5] (fun i => ∃ q : Nat, a ≤ q ∧ q ≤ l.length ∧ i = .int .i64 q ∧ ((l.drop a).take (q - a)).all isNam = true) (fun i => l.length - (intOf i).toNat)
  case atStart => exact ⟨a, by omega, by omega, rfl, by simp⟩
  case round =>
    obtain ⟨q, hq, hql, rfl, hal⟩ := hrel
    have HA := Lib.hid hal
    clear hal
    by_cases hlt : q < l.length
    · have hsq : q < (⟨l.toArray⟩ : ByteArray).size := by rw [mk_size]; exact hlt
      have p1 := lowI_mk l q hsq
      have p2 := digI_mk l q hsq
      have p3 : (((⟨l.toArray⟩ : ByteArray)[q].toNat : Int) == 95) = (l.getD q 0 == 95) := by rw [mk_getD]; exact beq_byte _ 95 _ rfl (by omega)
      cases g1 : isLet (l.getD q 0)
      · rw [g1] at p1
        cases g2 : isDig (l.getD q 0)
        · rw [g2] at p2
          cases g3 : (l.getD q 0 == 95)
          · rw [g3] at p3
            have F := Lib.hid (refTok_run (p := isNam) hq hql HA.out (fun _ => by unfold isNam; rw [g1, g2, g3]; rfl))
            clear g1 g2 g3
            go_wp2_with fail
            refine (refLetter_any _ _).mono ?_
            rintro e wx ⟨rfl, rfl⟩
            rw [p1]
            go_wp2_with fail
            refine (refDigit_any _ _).mono ?_
            rintro e wx ⟨rfl, rfl⟩
            rw [p2]
            go_wp2_with fail
            refine bodyPost_ret (v := .agg #[.int .i64 1, .string ((⟨l.toArray⟩ : ByteArray).extract a q), .int .i64 a]) (by simp [results, Tryd.results22, go_sem]) rfl ⟨ret_v (Eq.trans (by rw [ex_mk]; exact tok_of (l := l) (a := a) (q := q) rfl hq (by rw [HN1.out, F.out])) HV.out), (Below.refl _ _).alloc (Nat.le_refl _) _⟩
          · rw [g3] at p3
            have F := Lib.hid (all_step (p := isNam) hq hlt HA.out (by unfold isNam; rw [g1, g2, g3]; rfl))
            clear g1 g2 g3
            go_wp2_with fail
            refine (refLetter_any _ _).mono ?_
            rintro e wx ⟨rfl, rfl⟩
            rw [p1]
            go_wp2_with fail
            refine (refDigit_any _ _).mono ?_
            rintro e wx ⟨rfl, rfl⟩
            rw [p2]
            go_wp2_with fail
            go_round
            case rel => exact ⟨q + 1, by omega, by omega, by go_num, F.out⟩
            case measure => simp [intOf]; omega
        · rw [g2] at p2
          have F := Lib.hid (all_step (p := isNam) hq hlt HA.out (by unfold isNam; rw [g1, g2]; rfl))
          clear g1 g2 p3
          go_wp2_with fail
          refine (refLetter_any _ _).mono ?_
          rintro e wx ⟨rfl, rfl⟩
          rw [p1]
          go_wp2_with fail
          refine (refDigit_any _ _).mono ?_
          rintro e wx ⟨rfl, rfl⟩
          rw [p2]
          go_wp2_with fail
          go_round
          case rel => exact ⟨q + 1, by omega, by omega, by go_num, F.out⟩
          case measure => simp [intOf]; omega
      · rw [g1] at p1
        have F := Lib.hid (all_step (p := isNam) hq hlt HA.out (by unfold isNam; rw [g1]; rfl))
        clear g1 p2 p3
        go_wp2_with fail
        refine (refLetter_any _ _).mono ?_
        rintro e wx ⟨rfl, rfl⟩
        rw [p1]
        go_wp2_with fail
        go_round
        case rel => exact ⟨q + 1, by omega, by omega, by go_num, F.out⟩
        case measure => simp [intOf]; omega
    · have F := Lib.hid (refTok_run (p := isNam) hq hql HA.out (fun h => absurd h hlt))
      go_wp2_with fail
      refine bodyPost_ret (v := .agg #[.int .i64 1, .string ((⟨l.toArray⟩ : ByteArray).extract a q), .int .i64 a]) (by simp [results, Tryd.results22, go_sem]) rfl ⟨ret_v (Eq.trans (by rw [ex_mk]; exact tok_of (l := l) (a := a) (q := q) rfl hq (by rw [HN1.out, F.out])) HV.out), (Below.refl _ _).alloc (Nat.le_refl _) _⟩
set_option maxRecDepth 100000 in
set_option maxHeartbeats 2000000 in
theorem refNext_dig (l : List UInt8) (a : Nat) (w : World) (ha : a < l.length) (hl : l.length ≤ 9000) (V : Value) (HV : Hid (tokV (refTok l a) = V)) (hsz : a < (⟨l.toArray⟩ : ByteArray).size) (q1 : lowI ((⟨l.toArray⟩ : ByteArray)[a]'hsz).toNat = false) (q2 : digI ((⟨l.toArray⟩ : ByteArray)[a]'hsz).toNat = true) (HN1 : Hid (nextL (l.drop a) = (2, runL isDig (l.drop a)))) :
    Calls Tryd.prog 22 #[.string ⟨l.toArray⟩, .int .i64 a] w fun e w' => e = .returned V ∧ Below w.heap.size w w' := by
  go_enter Tryd.func22, Tryd.ntmps22
  go_wp2_with fail
  refine (refLetter_any _ _).mono ?_
  rintro e wx ⟨rfl, rfl⟩
  rw [q1]
  go_wp2_with fail
  refine (refDigit_any _ _).mono ?_
  rintro e wx ⟨rfl, rfl⟩
  rw [q2]
  go_wp2_with fail
  go_loop [5] (fun i => ∃ q : Nat, a ≤ q ∧ q ≤ l.length ∧ i = .int .i64 q ∧ ((l.drop a).take (q - a)).all isDig = true) (fun i => l.length - (intOf i).toNat)
  case atStart => exact ⟨a, by omega, by omega, rfl, by simp⟩
  case round =>
    obtain ⟨q, hq, hql, rfl, hal⟩ := hrel
    have HA := Lib.hid hal
    clear hal
    by_cases hlt : q < l.length
    · have hsq : q < (⟨l.toArray⟩ : ByteArray).size := by rw [mk_size]; exact hlt
      have p2 := digI_mk l q hsq
      cases g2 : isDig (l.getD q 0)
      · rw [g2] at p2
        have F := Lib.hid (refTok_run (p := isDig) hq hql HA.out (fun _ => g2))
        clear g2
        go_wp2_with fail
        refine (refDigit_any _ _).mono ?_
        rintro e wx ⟨rfl, rfl⟩
        rw [p2]
        go_wp2_with fail
        refine bodyPost_ret (v := .agg #[.int .i64 2, .string ((⟨l.toArray⟩ : ByteArray).extract a q), .int .i64 a]) (by simp [results, Tryd.results22, go_sem]) rfl ⟨ret_v (Eq.trans (by rw [ex_mk]; exact tok_of (l := l) (a := a) (q := q) rfl hq (by rw [HN1.out, F.out])) HV.out), (Below.refl _ _).alloc (Nat.le_refl _) _⟩
      · rw [g2] at p2
        have F := Lib.hid (all_step (p := isDig) hq hlt HA.out g2)
        clear g2
        go_wp2_with fail
        refine (refDigit_any _ _).mono ?_
        rintro e wx ⟨rfl, rfl⟩
        rw [p2]
        go_wp2_with fail
        go_round
        case rel => exact ⟨q + 1, by omega, by omega, by go_num, F.out⟩
        case measure => simp [intOf]; omega
    · have F := Lib.hid (refTok_run (p := isDig) hq hql HA.out (fun h => absurd h hlt))
      go_wp2_with fail
      refine bodyPost_ret (v := .agg #[.int .i64 2, .string ((⟨l.toArray⟩ : ByteArray).extract a q), .int .i64 a]) (by simp [results, Tryd.results22, go_sem]) rfl ⟨ret_v (Eq.trans (by rw [ex_mk]; exact tok_of (l := l) (a := a) (q := q) rfl hq (by rw [HN1.out, F.out])) HV.out), (Below.refl _ _).alloc (Nat.le_refl _) _⟩
set_option maxRecDepth 100000 in
set_option maxHeartbeats 2000000 in
theorem refNext_dbl (l : List UInt8) (a : Nat) (w : World) (ha : a < l.length) (hl : l.length ≤ 9000) (V : Value) (HV : Hid (tokV (refTok l a) = V)) (hsz : a < (⟨l.toArray⟩ : ByteArray).size) (q1 : lowI ((⟨l.toArray⟩ : ByteArray)[a]'hsz).toNat = false) (q2 : digI ((⟨l.toArray⟩ : ByteArray)[a]'hsz).toNat = false) (H3 : Hid (inL dbls ((l.drop a).take 2) = true)) (h2 : a + 2 ≤ l.length) (HN1 : Hid (nextL (l.drop a) = (3, 2))) :
    Calls Tryd.prog 22 #[.string ⟨l.toArray⟩, .int .i64 a] w fun e w' => e = .returned V ∧ Below w.heap.size w w' := by
  go_enter Tryd.func22, Tryd.ntmps22
  go_wp2_with fail
  refine (refLetter_any _ _).mono ?_
  rintro e wx ⟨rfl, rfl⟩
  rw [q1]
  go_wp2_with fail
  refine (refDigit_any _ _).mono ?_
  rintro e wx ⟨rfl, rfl⟩
  rw [q2]
  go_wp2_with fail
  rw [ex_mk, List.drop_take, show a + 2 - a = 2 from by omega]
  have hin := refInD ((l.drop a).take 2) (w.alloc (Obj.cells #[Value.int IntKind.i64 0, Value.string { data := #[] }, Value.int IntKind.i64 0] 40))
  rw [World.size_alloc] at hin
  refine hin.mono ?_
  rintro e wx ⟨rfl, rfl⟩
  clear hin
  rw [H3.out]
  go_wp2_with fail
  refine bodyPost_ret (v := .agg #[.int .i64 3, .string ((⟨l.toArray⟩ : ByteArray).extract a (a + 2)), .int .i64 a]) (by simp [results, Tryd.results22, go_sem]) rfl ⟨ret_v (Eq.trans (by rw [ex_mk]; exact tok_of (l := l) (a := a) (q := a + 2) rfl (by omega) (by rw [HN1.out, show a + 2 - a = 2 from by omega])) HV.out), ((Below.refl _ _).alloc (Nat.le_refl _) _).alloc (by simp) _⟩
set_option maxRecDepth 100000 in
set_option maxHeartbeats 2000000 in
theorem refNext_sgl (l : List UInt8) (a : Nat) (w : World) (ha : a < l.length) (hl : l.length ≤ 9000) (V : Value) (HV : Hid (tokV (refTok l a) = V)) (hsz : a < (⟨l.toArray⟩ : ByteArray).size) (q1 : lowI ((⟨l.toArray⟩ : ByteArray)[a]'hsz).toNat = false) (q2 : digI ((⟨l.toArray⟩ : ByteArray)[a]'hsz).toNat = false) (H3 : Hid (inL dbls ((l.drop a).take 2) = false)) (h2 : a + 2 ≤ l.length) (b : Bool) (H4 : Hid (sgls.contains (l.getD a 0) = b)) (HN1 : Hid (nextL (l.drop a) = if sgls.contains (l.getD a 0) then (3, 1) else (0, 0))) :
    Calls Tryd.prog 22 #[.string ⟨l.toArray⟩, .int .i64 a] w fun e w' => e = .returned V ∧ Below w.heap.size w w' := by
  go_enter Tryd.func22, Tryd.ntmps22
  go_wp2_with fail
  refine (refLetter_any _ _).mono ?_
  rintro e wx ⟨rfl, rfl⟩
  rw [q1]
  go_wp2_with fail
  refine (refDigit_any _ _).mono ?_
  rintro e wx ⟨rfl, rfl⟩
  rw [q2]
  go_wp2_with fail
  rw [ex_mk, List.drop_take, show a + 2 - a = 2 from by omega]
  have hin := refInD ((l.drop a).take 2) (w.alloc (Obj.cells #[Value.int IntKind.i64 0, Value.string { data := #[] }, Value.int IntKind.i64 0] 40))
  rw [World.size_alloc] at hin
  refine hin.mono ?_
  rintro e wx ⟨rfl, rfl⟩
  clear hin
  rw [H3.out]
  go_wp2_with fail
  rw [ex_mk, List.drop_take, show a + 1 - a = 1 from by omega]
  have hin1 := refInS ((l.drop a).take 1) ((w.alloc (Obj.cells #[Value.int IntKind.i64 0, Value.string { data := #[] }, Value.int IntKind.i64 0] 40)).alloc (Obj.cells #[Value.string { data := #[46, 46] }, Value.string { data := #[60, 61] }, Value.string { data := #[62, 61] }, Value.string { data := #[33, 61] }] 9))
  rw [World.size_alloc, World.size_alloc] at hin1
  refine hin1.mono ?_
  rintro e wx ⟨rfl, rfl⟩
  clear hin1
  rw [inS_one ha, H4.out]
  cases b
  · go_wp2_with fail
    refine bodyPost_ret (v := .agg #[.int .i64 0, .string ⟨#[]⟩, .int .i64 0]) (by simp [results, Tryd.results22, go_sem]) rfl ⟨ret_v (Eq.trans (by unfold refTok; rw [HN1.out, H4.out]; rfl) HV.out), (((Below.refl _ _).alloc (Nat.le_refl _) _).alloc (by simp) _).alloc (by simp; omega) _⟩
  · go_wp2_with fail
    refine bodyPost_ret (v := .agg #[.int .i64 3, .string ((⟨l.toArray⟩ : ByteArray).extract a (a + 1)), .int .i64 a]) (by simp [results, Tryd.results22, go_sem]) rfl ⟨ret_v (Eq.trans (by rw [ex_mk]; exact tok_of (l := l) (a := a) (q := a + 1) rfl (by omega) (by rw [HN1.out, H4.out, show a + 1 - a = 1 from by omega]; rfl)) HV.out), (((Below.refl _ _).alloc (Nat.le_refl _) _).alloc (by simp) _).alloc (by simp; omega) _⟩
end Go.Proofs.YtblpgdfjmkefkaaDoor
