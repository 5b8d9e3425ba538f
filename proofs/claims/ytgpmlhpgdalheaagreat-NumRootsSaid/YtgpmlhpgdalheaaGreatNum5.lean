/- of64, Int. -/
import Derived.Test.YtgpmlhpgdalheaaGreatNum4
namespace Go.Proofs.YtgpmlhpgdalheaaGreat
open Go.RowKit Pl
set_option linter.unusedVariables false
set_option linter.unusedSimpArgs false

theorem wrap_neg {n : Int} (h1 : -9223372036854775808 ≤ n) (h2 : n < 0) : IntKind.u64.wrap (-IntKind.u64.wrap n) = (ab n : Int) := by
  unfold ab; simp [IntKind.wrap, IntKind.bits, IntKind.signed]; omega
theorem wrap_pos {n : Int} (h1 : n ≤ 9223372036854775807) (h2 : 0 ≤ n) : IntKind.u64.wrap n = (ab n : Int) := by
  unfold ab; simp [IntKind.wrap, IntKind.bits, IntKind.signed]; omega

set_option maxHeartbeats 4000000 in
theorem of64_neg (n : Int) (w : World) (h1 : -9223372036854775808 ≤ n) (h2 : n < 0) :
    Calls Tryz.prog 120 #[.int .i64 n] w (RetWhole w n) := by
  have E := Lib.hid (wrap_neg h1 h2)
  have B : Hid (ab n < 18446744073709551616) := Lib.hid (by unfold ab; omega)
  have T : Hid (sn n = true) := Lib.hid (by unfold sn; rw [decide_eq_true_eq]; omega)
  have t0 : decide (n < 0) = true := T.out
  clear h1 h2
  go_enter Tryz.func120, Tryz.ntmps120
  go_wp2_with fail
  obtain ⟨W, hW⟩ : ∃ W : World, W = (w.alloc (.cells #[.bool false, .slice none 0 0] 28)) := ⟨_, rfl⟩
  have r0 : W.cell? ⟨w.heap.size, 0, none⟩ = some (.bool false) := by subst hW; go_simp
  have f0 : W.frozen? ⟨w.heap.size, 0, none⟩ = false := by subst hW; go_simp
  have r1 : W.cell? ⟨w.heap.size, 1, none⟩ = some (.slice none 0 0) := by subst hW; go_simp
  have f1 : W.frozen? ⟨w.heap.size, 1, none⟩ = false := by subst hW; go_simp
  have HW : Below w.heap.size w W := by subst hW; exact ((Below.refl w.heap.size w).alloc (Nat.le_refl _) _)
  have l0 : w.heap.size < W.heap.size := by subst hW; simp
  rw [← hW]
  clear hW
  replace HW := Lib.hid HW
  rw [E.out]
  refine (natOf_any (ab n) B.out _).mono ?_
  rintro e w1 ⟨A1, rfl, h1, hb1⟩
  replace r0 := keepc hb1 r0 l0
  replace f0 := keepf hb1 f0 l0
  replace r1 := keepc hb1 r1 l0
  replace f1 := keepf hb1 f1 l0
  replace l0 := Nat.lt_of_lt_of_le l0 hb1.size
  replace HW := Lib.hid (hstep HW hb1)
  clear hb1
  go_wp2_with fail
  have t := T.out
  exact bodyPost_ret (v := .agg #[.bool true, .slice A1 (ln (ab n)) (ln (ab n))]) (by simp [results, Tryz.results120, go_sem, r0, r1, f0, f1]) rfl (by have := retWhole_fin HW h1 (by omega) r0; rw [t] at this; exact this)

set_option maxHeartbeats 4000000 in
theorem of64_pos (n : Int) (w : World) (h1 : n ≤ 9223372036854775807) (h2 : 0 ≤ n) :
    Calls Tryz.prog 120 #[.int .i64 n] w (RetWhole w n) := by
  have E := Lib.hid (wrap_pos h1 h2)
  have B : Hid (ab n < 18446744073709551616) := Lib.hid (by unfold ab; omega)
  have T : Hid (sn n = false) := Lib.hid (by unfold sn; rw [decide_eq_false_iff_not]; omega)
  have t0 : decide (n < 0) = false := T.out
  clear h1 h2
  go_enter Tryz.func120, Tryz.ntmps120
  go_wp2_with fail
  obtain ⟨W, hW⟩ : ∃ W : World, W = (w.alloc (.cells #[.bool false, .slice none 0 0] 28)) := ⟨_, rfl⟩
  have r0 : W.cell? ⟨w.heap.size, 0, none⟩ = some (.bool false) := by subst hW; go_simp
  have f0 : W.frozen? ⟨w.heap.size, 0, none⟩ = false := by subst hW; go_simp
  have r1 : W.cell? ⟨w.heap.size, 1, none⟩ = some (.slice none 0 0) := by subst hW; go_simp
  have f1 : W.frozen? ⟨w.heap.size, 1, none⟩ = false := by subst hW; go_simp
  have HW : Below w.heap.size w W := by subst hW; exact ((Below.refl w.heap.size w).alloc (Nat.le_refl _) _)
  have l0 : w.heap.size < W.heap.size := by subst hW; simp
  rw [← hW]
  clear hW
  replace HW := Lib.hid HW
  rw [E.out]
  refine (natOf_any (ab n) B.out _).mono ?_
  rintro e w1 ⟨A1, rfl, h1, hb1⟩
  replace r0 := keepc hb1 r0 l0
  replace f0 := keepf hb1 f0 l0
  replace r1 := keepc hb1 r1 l0
  replace f1 := keepf hb1 f1 l0
  replace l0 := Nat.lt_of_lt_of_le l0 hb1.size
  replace HW := Lib.hid (hstep HW hb1)
  clear hb1
  go_wp2_with fail
  have t := T.out
  exact bodyPost_ret (v := .agg #[.bool false, .slice A1 (ln (ab n)) (ln (ab n))]) (by simp [results, Tryz.results120, go_sem, r0, r1, f0, f1]) rfl (by have := retWhole_fin HW h1 (by omega) r0; rw [t] at this; exact this)

/-- 'of64(n)'. -/
theorem of64_any (n : Int) (w : World) (h1 : -9223372036854775808 ≤ n) (h2 : n ≤ 9223372036854775807) :
    Calls Tryz.prog 120 #[.int .i64 n] w (RetWhole w n) := by
  by_cases h : n < 0
  · exact of64_neg n w h1 h
  · exact of64_pos n w h2 (by omega)

theorem ab_small {n : Int} (h1 : -9223372036854775808 ≤ n) (h2 : n ≤ 9223372036854775807) : ln (ab n) ≤ 2 := ln_le (n := ab n) (k := 2) (by unfold ab; omega)

set_option maxHeartbeats 4000000 in
theorem int_any (n : Int) (w : World) (h1 : -9223372036854775808 ≤ n) (h2 : n ≤ 9223372036854775807) :
    Calls Tryz.prog 59 #[.int .i64 n] w (RetNum w (Cx.ofInt n)) := by
  have B1 := Lib.hid h1
  have B2 := Lib.hid h2
  clear h1 h2
  obtain ⟨e1, e2, e3⟩ := ofInt_form n
  have E := Lib.hid (And.intro e1 (And.intro e2 (un_one e3)))
  clear e1 e2 e3
  go_enter Tryz.func59, Tryz.ntmps59
  go_wp2_with fail
  obtain ⟨W, hW⟩ : ∃ W : World, W = (w.alloc (.cells #[.bool false, .slice none 0 0, .bool false, .slice none 0 0, .slice none 0 0] 30)) := ⟨_, rfl⟩
  have r0 : W.cell? ⟨w.heap.size, 0, none⟩ = some (.bool false) := by subst hW; go_simp
  have f0 : W.frozen? ⟨w.heap.size, 0, none⟩ = false := by subst hW; go_simp
  have r1 : W.cell? ⟨w.heap.size, 1, none⟩ = some (.slice none 0 0) := by subst hW; go_simp
  have f1 : W.frozen? ⟨w.heap.size, 1, none⟩ = false := by subst hW; go_simp
  have r2 : W.cell? ⟨w.heap.size, 2, none⟩ = some (.bool false) := by subst hW; go_simp
  have f2 : W.frozen? ⟨w.heap.size, 2, none⟩ = false := by subst hW; go_simp
  have r3 : W.cell? ⟨w.heap.size, 3, none⟩ = some (.slice none 0 0) := by subst hW; go_simp
  have f3 : W.frozen? ⟨w.heap.size, 3, none⟩ = false := by subst hW; go_simp
  have r4 : W.cell? ⟨w.heap.size, 4, none⟩ = some (.slice none 0 0) := by subst hW; go_simp
  have f4 : W.frozen? ⟨w.heap.size, 4, none⟩ = false := by subst hW; go_simp
  have HW : Below w.heap.size w W := by subst hW; exact ((Below.refl w.heap.size w).alloc (Nat.le_refl _) _)
  have l0 : w.heap.size < W.heap.size := by subst hW; simp
  rw [← hW]
  clear hW
  replace HW := Lib.hid HW
  refine (of64_any n _ B1.out B2.out).mono ?_
  rintro e w1 ⟨A1, rfl, h1, hb1⟩
  replace r0 := keepc hb1 r0 l0
  replace f0 := keepf hb1 f0 l0
  replace r1 := keepc hb1 r1 l0
  replace f1 := keepf hb1 f1 l0
  replace r2 := keepc hb1 r2 l0
  replace f2 := keepf hb1 f2 l0
  replace r3 := keepc hb1 r3 l0
  replace f3 := keepf hb1 f3 l0
  replace r4 := keepc hb1 r4 l0
  replace f4 := keepf hb1 f4 l0
  replace l0 := Nat.lt_of_lt_of_le l0 hb1.size
  replace HW := Lib.hid (hstep HW hb1)
  clear hb1
  go_wp2_with fail
  refine bodyPost_ret (v := .agg #[.bool (sn n), .slice A1 (ln (ab n)) (ln (ab n)), .bool false, .slice none 0 0, .slice none 0 0]) (by simp [results, Tryz.results59, go_sem, r0, r1, r2, r3, r4, f0, f1, f2, f3, f4]) rfl ?_
  have h := retNum_fin (q := Cx.ofInt n) (A1 := A1) (A2 := none) (A3 := none) HW ⟨by rw [E.out.1]; exact h1, by rw [E.out.2.1]; exact fun e => absurd rfl e, by rw [E.out.2.2]; exact fun e => absurd rfl e⟩ (by omega) r0
  rw [E.out.1, E.out.2.1, E.out.2.2, sn_zero, show ab 0 = 0 from rfl, ln_zero] at h
  exact h

end Go.Proofs.YtgpmlhpgdalheaaGreat
