/- Num: Sub, Im, Norm, Clear, Real; whole.cmp, Side. Conditions: at most 2^37 words each. -/
import Derived.Test.YtgpmlhpgdalheaaGreatMulN
namespace Go.Proofs.YtgpmlhpgdalheaaGreat
open Go.RowKit Pl
set_option linter.unusedVariables false
set_option linter.unusedSimpArgs false

instance : DecidableEq Cx := fun x y => decidable_of_iff (x.re = y.re ∧ x.im = y.im) ⟨fun h => Cx.ext' h.1 h.2, fun h => by rw [h]; exact ⟨rfl, rfl⟩⟩

/-- The order of two integers. -/
def cmpZ (a b : Int) : Int := if a < b then -1 else if a = b then 0 else 1
theorem cmpZ_lt {a b : Int} (h : a < b) : cmpZ a b = -1 := by unfold cmpZ; rw [if_pos h]
theorem cmpZ_eq {a b : Int} (h : a = b) : cmpZ a b = 0 := by unfold cmpZ; rw [if_neg (by omega), if_pos h]
theorem cmpZ_gt {a b : Int} (h : b < a) : cmpZ a b = 1 := by unfold cmpZ; rw [if_neg (by omega), if_neg (by omega)]

/-- 'over(re, whole{}, d)'. -/
theorem over0_any (a : Int) (d : Nat) (A D : Option Addr) (w : World) (hx : Nat32 w A (ab a)) (hd : Nat32 w D d) (hbx : ln (ab a) ≤ 1099511627776) (hbd : ln d ≤ 1099511627776) (hd0 : d ≠ 0) :
    Calls Tryz.prog 96 #[.agg #[.bool (sn (a)), .slice A (ln (ab (a))) (ln (ab (a)))], .agg #[.bool false, .slice none 0 0], .slice D (ln d) (ln d)] w (RetNum w (fr a 0 d)) := by
  have h := over_any a 0 d A none D w hx (fun e => absurd rfl e) hd hbx (by rw [show ab 0 = 0 from rfl, ln_zero]; omega) hbd hd0
  rw [show ab 0 = 0 from rfl, ln_zero, sn_zero] at h
  exact h

set_option maxHeartbeats 4000000 in
theorem sub_num (x y : Cx) (A1 A2 A3 B1 B2 B3 : Option Addr) (w : World) (hx : Num3 w A1 A2 A3 x) (hy : Num3 w B1 B2 B3 y) (hsx : sz 137438953472 x) (hsy : sz 137438953472 y) :
    Calls Tryz.prog 28 #[.agg #[.bool (sn (na x)), .slice A1 (ln (ab (na x))) (ln (ab (na x))), .bool (sn (nb x)), .slice A2 (ln (ab (nb x))) (ln (ab (nb x))), .slice A3 (ln (un x)) (ln (un x))], .agg #[.bool (sn (na y)), .slice B1 (ln (ab (na y))) (ln (ab (na y))), .bool (sn (nb y)), .slice B2 (ln (ab (nb y))) (ln (ab (nb y))), .slice B3 (ln (un y)) (ln (un y))]] w (RetNum w (x.sub y)) := by
  obtain ⟨hx1, hx2, hx3⟩ := hx
  obtain ⟨hy1, hy2, hy3⟩ := hy
  have HSX := Lib.hid hsx
  have HSY := Lib.hid (sz_neg hsy)
  clear hsx hsy
  have hd : x.sub y = x.add y.neg := rfl
  rw [hd]
  clear hd
  go_enter Tryz.func28, Tryz.ntmps28
  go_wp2_with fail
  obtain ⟨W, hW⟩ : ∃ W : World, W = (((w.alloc (.cells #[.bool (sn (na x)), .slice A1 (ln (ab (na x))) (ln (ab (na x))), .bool (sn (nb x)), .slice A2 (ln (ab (nb x))) (ln (ab (nb x))), .slice A3 (ln (un x)) (ln (un x))] 30)).alloc (.cells #[.bool (sn (na y)), .slice B1 (ln (ab (na y))) (ln (ab (na y))), .bool (sn (nb y)), .slice B2 (ln (ab (nb y))) (ln (ab (nb y))), .slice B3 (ln (un y)) (ln (un y))] 30)).alloc (.cells #[.bool false, .slice none 0 0, .bool false, .slice none 0 0, .slice none 0 0] 30)) := ⟨_, rfl⟩
  have s0_0 : W.cell? ⟨w.heap.size, 0, none⟩ = some (.bool (sn (na x))) := by subst hW; go_simp
  have s0_1 : W.cell? ⟨w.heap.size, 1, none⟩ = some (.slice A1 (ln (ab (na x))) (ln (ab (na x)))) := by subst hW; go_simp
  have s0_2 : W.cell? ⟨w.heap.size, 2, none⟩ = some (.bool (sn (nb x))) := by subst hW; go_simp
  have s0_3 : W.cell? ⟨w.heap.size, 3, none⟩ = some (.slice A2 (ln (ab (nb x))) (ln (ab (nb x)))) := by subst hW; go_simp
  have s0_4 : W.cell? ⟨w.heap.size, 4, none⟩ = some (.slice A3 (ln (un x)) (ln (un x))) := by subst hW; go_simp
  have s1_0 : W.cell? ⟨w.heap.size + 1, 0, none⟩ = some (.bool (sn (na y))) := by subst hW; go_simp
  have s1_1 : W.cell? ⟨w.heap.size + 1, 1, none⟩ = some (.slice B1 (ln (ab (na y))) (ln (ab (na y)))) := by subst hW; go_simp
  have s1_2 : W.cell? ⟨w.heap.size + 1, 2, none⟩ = some (.bool (sn (nb y))) := by subst hW; go_simp
  have s1_3 : W.cell? ⟨w.heap.size + 1, 3, none⟩ = some (.slice B2 (ln (ab (nb y))) (ln (ab (nb y)))) := by subst hW; go_simp
  have s1_4 : W.cell? ⟨w.heap.size + 1, 4, none⟩ = some (.slice B3 (ln (un y)) (ln (un y))) := by subst hW; go_simp
  have r0 : W.cell? ⟨w.heap.size + 1 + 1, 0, none⟩ = some (.bool false) := by subst hW; go_simp
  have f0 : W.frozen? ⟨w.heap.size + 1 + 1, 0, none⟩ = false := by subst hW; go_simp
  have r1 : W.cell? ⟨w.heap.size + 1 + 1, 1, none⟩ = some (.slice none 0 0) := by subst hW; go_simp
  have f1 : W.frozen? ⟨w.heap.size + 1 + 1, 1, none⟩ = false := by subst hW; go_simp
  have r2 : W.cell? ⟨w.heap.size + 1 + 1, 2, none⟩ = some (.bool false) := by subst hW; go_simp
  have f2 : W.frozen? ⟨w.heap.size + 1 + 1, 2, none⟩ = false := by subst hW; go_simp
  have r3 : W.cell? ⟨w.heap.size + 1 + 1, 3, none⟩ = some (.slice none 0 0) := by subst hW; go_simp
  have f3 : W.frozen? ⟨w.heap.size + 1 + 1, 3, none⟩ = false := by subst hW; go_simp
  have r4 : W.cell? ⟨w.heap.size + 1 + 1, 4, none⟩ = some (.slice none 0 0) := by subst hW; go_simp
  have f4 : W.frozen? ⟨w.heap.size + 1 + 1, 4, none⟩ = false := by subst hW; go_simp
  have HW : Below w.heap.size w W := by subst hW; exact ((((Below.refl w.heap.size w).alloc (Nat.le_refl _) _).alloc (by simp) _).alloc (by simp; omega) _)
  have l0 : w.heap.size < W.heap.size := by subst hW; simp <;> omega
  have l1 : w.heap.size + 1 < W.heap.size := by subst hW; simp <;> omega
  have l2 : w.heap.size + 1 + 1 < W.heap.size := by subst hW; simp
  have n0 : w.heap.size ≠ w.heap.size + 1 + 1 := by omega
  have n1 : w.heap.size + 1 ≠ w.heap.size + 1 + 1 := by omega
  replace hx1 := hx1.to HW
  replace hx2 := hx2.to HW
  replace hx3 := hx3.to HW
  replace hy1 := hy1.to HW
  replace hy2 := hy2.to HW
  replace hy3 := hy3.to HW
  rw [← hW]
  clear hW
  replace HW := Lib.hid HW
  go_region_held3 (fun w' => w'.cell? ⟨w.heap.size, 0, none⟩ = some (.bool (sn (na x))) ∧ w'.cell? ⟨w.heap.size, 1, none⟩ = some (.slice A1 (ln (ab (na x))) (ln (ab (na x)))) ∧ w'.cell? ⟨w.heap.size, 2, none⟩ = some (.bool (sn (nb x))) ∧ w'.cell? ⟨w.heap.size, 3, none⟩ = some (.slice A2 (ln (ab (nb x))) (ln (ab (nb x)))) ∧ w'.cell? ⟨w.heap.size, 4, none⟩ = some (.slice A3 (ln (un x)) (ln (un x))) ∧ w'.cell? ⟨w.heap.size + 1, 0, none⟩ = some (.bool (sn (na y))) ∧ w'.cell? ⟨w.heap.size + 1, 1, none⟩ = some (.slice B1 (ln (ab (na y))) (ln (ab (na y)))) ∧ w'.cell? ⟨w.heap.size + 1, 2, none⟩ = some (.bool (sn (nb y))) ∧ w'.cell? ⟨w.heap.size + 1, 3, none⟩ = some (.slice B2 (ln (ab (nb y))) (ln (ab (nb y)))) ∧ w'.cell? ⟨w.heap.size + 1, 4, none⟩ = some (.slice B3 (ln (un y)) (ln (un y)))) (first | with_reducible exact ⟨s0_0, s0_1, s0_2, s0_3, s0_4, s1_0, s1_1, s1_2, s1_3, s1_4⟩ | with_reducible exact ⟨(keeps (keeps (keeps (keeps (keeps s0_0 n0) n0) n0) n0) n0), (keeps (keeps (keeps (keeps (keeps s0_1 n0) n0) n0) n0) n0), (keeps (keeps (keeps (keeps (keeps s0_2 n0) n0) n0) n0) n0), (keeps (keeps (keeps (keeps (keeps s0_3 n0) n0) n0) n0) n0), (keeps (keeps (keeps (keeps (keeps s0_4 n0) n0) n0) n0) n0), (keeps (keeps (keeps (keeps (keeps s1_0 n1) n1) n1) n1) n1), (keeps (keeps (keeps (keeps (keeps s1_1 n1) n1) n1) n1) n1), (keeps (keeps (keeps (keeps (keeps s1_2 n1) n1) n1) n1) n1), (keeps (keeps (keeps (keeps (keeps s1_3 n1) n1) n1) n1) n1), (keeps (keeps (keeps (keeps (keeps s1_4 n1) n1) n1) n1) n1)⟩ | exact ⟨s0_0, s0_1, s0_2, s0_3, s0_4, s1_0, s1_1, s1_2, s1_3, s1_4⟩) (first
    | (go_at_call 34; refine (neg_any y B1 B2 B3 _ (by exact num3_mk hy1 hy2 hy3)).mono ?_; rintro e w1 ⟨M1, M2, M3, rfl, h1, hb1⟩; have hb1 := undrew hb1; replace s0_0 := keepc hb1 s0_0 l0; replace s0_1 := keepc hb1 s0_1 l0; replace s0_2 := keepc hb1 s0_2 l0; replace s0_3 := keepc hb1 s0_3 l0; replace s0_4 := keepc hb1 s0_4 l0; replace s1_0 := keepc hb1 s1_0 l1; replace s1_1 := keepc hb1 s1_1 l1; replace s1_2 := keepc hb1 s1_2 l1; replace s1_3 := keepc hb1 s1_3 l1; replace s1_4 := keepc hb1 s1_4 l1; replace r0 := keepc hb1 r0 l2; replace f0 := keepf hb1 f0 l2; replace r1 := keepc hb1 r1 l2; replace f1 := keepf hb1 f1 l2; replace r2 := keepc hb1 r2 l2; replace f2 := keepf hb1 f2 l2; replace r3 := keepc hb1 r3 l2; replace f3 := keepf hb1 f3 l2; replace r4 := keepc hb1 r4 l2; replace f4 := keepf hb1 f4 l2; replace l0 := Nat.lt_of_lt_of_le l0 hb1.size; replace l1 := Nat.lt_of_lt_of_le l1 hb1.size; replace l2 := Nat.lt_of_lt_of_le l2 hb1.size; replace hx1 := hx1.to hb1; replace hx2 := hx2.to hb1; replace hx3 := hx3.to hb1; replace hy1 := hy1.to hb1; replace hy2 := hy2.to hb1; replace hy3 := hy3.to hb1; replace HW := Lib.hid (hstep HW hb1); clear hb1)
    | (go_at_call 26; refine (add_num x y.neg A1 A2 A3 M1 M2 M3 _ (by exact num3_mk hx1 hx2 hx3) (by exact h1) HSX.out HSY.out).mono ?_; rintro e w2 ⟨Z1, Z2, Z3, rfl, h2, hb2⟩; replace s0_0 := keepc hb2 s0_0 l0; replace s0_1 := keepc hb2 s0_1 l0; replace s0_2 := keepc hb2 s0_2 l0; replace s0_3 := keepc hb2 s0_3 l0; replace s0_4 := keepc hb2 s0_4 l0; replace s1_0 := keepc hb2 s1_0 l1; replace s1_1 := keepc hb2 s1_1 l1; replace s1_2 := keepc hb2 s1_2 l1; replace s1_3 := keepc hb2 s1_3 l1; replace s1_4 := keepc hb2 s1_4 l1; replace r0 := keepc hb2 r0 l2; replace f0 := keepf hb2 f0 l2; replace r1 := keepc hb2 r1 l2; replace f1 := keepf hb2 f1 l2; replace r2 := keepc hb2 r2 l2; replace f2 := keepf hb2 f2 l2; replace r3 := keepc hb2 r3 l2; replace f3 := keepf hb2 f3 l2; replace r4 := keepc hb2 r4 l2; replace f4 := keepf hb2 f4 l2; replace l0 := Nat.lt_of_lt_of_le l0 hb2.size; replace l1 := Nat.lt_of_lt_of_le l1 hb2.size; replace l2 := Nat.lt_of_lt_of_le l2 hb2.size; replace hx1 := hx1.to hb2; replace hx2 := hx2.to hb2; replace hx3 := hx3.to hb2; replace hy1 := hy1.to hb2; replace hy2 := hy2.to hb2; replace hy3 := hy3.to hb2; replace h1 := h1.to hb2; replace HW := Lib.hid (hstep HW hb2); clear hb2))
  go_wp2_with fail
  exact bodyPost_ret (v := .agg #[.bool (sn (na (x.add y.neg))), .slice Z1 (ln (ab (na (x.add y.neg)))) (ln (ab (na (x.add y.neg)))), .bool (sn (nb (x.add y.neg))), .slice Z2 (ln (ab (nb (x.add y.neg)))) (ln (ab (nb (x.add y.neg)))), .slice Z3 (ln (un (x.add y.neg))) (ln (un (x.add y.neg)))]) (by simp [results, Tryz.results28, go_sem, r0, r1, r2, r3, r4, f0, f1, f2, f3, f4]) rfl (retNum_fin HW h2 (by omega) r0)

set_option maxHeartbeats 4000000 in
theorem im_num (x : Cx) (A1 A2 A3 : Option Addr) (w : World) (hx : Num3 w A1 A2 A3 x) (hsx : sz 137438953472 x) :
    Calls Tryz.prog 41 #[.agg #[.bool (sn (na x)), .slice A1 (ln (ab (na x))) (ln (ab (na x))), .bool (sn (nb x)), .slice A2 (ln (ab (nb x))) (ln (ab (nb x))), .slice A3 (ln (un x)) (ln (un x))]] w (RetNum w x.imOf) := by
  obtain ⟨hx1, hx2, hx3⟩ := hx
  have HSX := Lib.hid hsx
  clear hsx
  rw [← im_fr]
  go_enter Tryz.func41, Tryz.ntmps41
  go_wp2_with fail
  obtain ⟨W, hW⟩ : ∃ W : World, W = ((w.alloc (.cells #[.bool (sn (na x)), .slice A1 (ln (ab (na x))) (ln (ab (na x))), .bool (sn (nb x)), .slice A2 (ln (ab (nb x))) (ln (ab (nb x))), .slice A3 (ln (un x)) (ln (un x))] 30)).alloc (.cells #[.bool false, .slice none 0 0, .bool false, .slice none 0 0, .slice none 0 0] 30)) := ⟨_, rfl⟩
  have s0_0 : W.cell? ⟨w.heap.size, 0, none⟩ = some (.bool (sn (na x))) := by subst hW; go_simp
  have s0_1 : W.cell? ⟨w.heap.size, 1, none⟩ = some (.slice A1 (ln (ab (na x))) (ln (ab (na x)))) := by subst hW; go_simp
  have s0_2 : W.cell? ⟨w.heap.size, 2, none⟩ = some (.bool (sn (nb x))) := by subst hW; go_simp
  have s0_3 : W.cell? ⟨w.heap.size, 3, none⟩ = some (.slice A2 (ln (ab (nb x))) (ln (ab (nb x)))) := by subst hW; go_simp
  have s0_4 : W.cell? ⟨w.heap.size, 4, none⟩ = some (.slice A3 (ln (un x)) (ln (un x))) := by subst hW; go_simp
  have r0 : W.cell? ⟨w.heap.size + 1, 0, none⟩ = some (.bool false) := by subst hW; go_simp
  have f0 : W.frozen? ⟨w.heap.size + 1, 0, none⟩ = false := by subst hW; go_simp
  have r1 : W.cell? ⟨w.heap.size + 1, 1, none⟩ = some (.slice none 0 0) := by subst hW; go_simp
  have f1 : W.frozen? ⟨w.heap.size + 1, 1, none⟩ = false := by subst hW; go_simp
  have r2 : W.cell? ⟨w.heap.size + 1, 2, none⟩ = some (.bool false) := by subst hW; go_simp
  have f2 : W.frozen? ⟨w.heap.size + 1, 2, none⟩ = false := by subst hW; go_simp
  have r3 : W.cell? ⟨w.heap.size + 1, 3, none⟩ = some (.slice none 0 0) := by subst hW; go_simp
  have f3 : W.frozen? ⟨w.heap.size + 1, 3, none⟩ = false := by subst hW; go_simp
  have r4 : W.cell? ⟨w.heap.size + 1, 4, none⟩ = some (.slice none 0 0) := by subst hW; go_simp
  have f4 : W.frozen? ⟨w.heap.size + 1, 4, none⟩ = false := by subst hW; go_simp
  have HW : Below w.heap.size w W := by subst hW; exact (((Below.refl w.heap.size w).alloc (Nat.le_refl _) _).alloc (by simp) _)
  have l0 : w.heap.size < W.heap.size := by subst hW; simp <;> omega
  have l1 : w.heap.size + 1 < W.heap.size := by subst hW; simp
  have n0 : w.heap.size ≠ w.heap.size + 1 := by omega
  replace hx1 := hx1.to HW
  replace hx2 := hx2.to HW
  replace hx3 := hx3.to HW
  rw [← hW]
  clear hW
  replace HW := Lib.hid HW
  go_region_held3 (fun w' => w'.cell? ⟨w.heap.size, 0, none⟩ = some (.bool (sn (na x))) ∧ w'.cell? ⟨w.heap.size, 1, none⟩ = some (.slice A1 (ln (ab (na x))) (ln (ab (na x)))) ∧ w'.cell? ⟨w.heap.size, 2, none⟩ = some (.bool (sn (nb x))) ∧ w'.cell? ⟨w.heap.size, 3, none⟩ = some (.slice A2 (ln (ab (nb x))) (ln (ab (nb x)))) ∧ w'.cell? ⟨w.heap.size, 4, none⟩ = some (.slice A3 (ln (un x)) (ln (un x)))) (first | with_reducible exact ⟨s0_0, s0_1, s0_2, s0_3, s0_4⟩ | with_reducible exact ⟨(keeps (keeps (keeps (keeps (keeps s0_0 n0) n0) n0) n0) n0), (keeps (keeps (keeps (keeps (keeps s0_1 n0) n0) n0) n0) n0), (keeps (keeps (keeps (keeps (keeps s0_2 n0) n0) n0) n0) n0), (keeps (keeps (keeps (keeps (keeps s0_3 n0) n0) n0) n0) n0), (keeps (keeps (keeps (keeps (keeps s0_4 n0) n0) n0) n0) n0)⟩ | exact ⟨s0_0, s0_1, s0_2, s0_3, s0_4⟩) (first
    | (go_at_call 89; refine (den_any x A1 A2 A3 _ (by exact num3_mk hx1 hx2 hx3)).mono ?_; rintro e w1 ⟨D1, rfl, h1, hb1⟩; have hb1 := undrew hb1; replace s0_0 := keepc hb1 s0_0 l0; replace s0_1 := keepc hb1 s0_1 l0; replace s0_2 := keepc hb1 s0_2 l0; replace s0_3 := keepc hb1 s0_3 l0; replace s0_4 := keepc hb1 s0_4 l0; replace r0 := keepc hb1 r0 l1; replace f0 := keepf hb1 f0 l1; replace r1 := keepc hb1 r1 l1; replace f1 := keepf hb1 f1 l1; replace r2 := keepc hb1 r2 l1; replace f2 := keepf hb1 f2 l1; replace r3 := keepc hb1 r3 l1; replace f3 := keepf hb1 f3 l1; replace r4 := keepc hb1 r4 l1; replace f4 := keepf hb1 f4 l1; replace l0 := Nat.lt_of_lt_of_le l0 hb1.size; replace l1 := Nat.lt_of_lt_of_le l1 hb1.size; replace hx1 := hx1.to hb1; replace hx2 := hx2.to hb1; replace hx3 := hx3.to hb1; replace HW := Lib.hid (hstep HW hb1); clear hb1)
    | (go_at_call 96; refine (over0_any (nb x) (nd x) A2 D1 _ (by exact hx2) (by exact h1) (by have := HSX.out; unfold sz at this; omega) (by have := HSX.out; unfold sz at this; omega) (nd_ne0 x)).mono ?_; rintro e w2 ⟨Z1, Z2, Z3, rfl, h2, hb2⟩; replace s0_0 := keepc hb2 s0_0 l0; replace s0_1 := keepc hb2 s0_1 l0; replace s0_2 := keepc hb2 s0_2 l0; replace s0_3 := keepc hb2 s0_3 l0; replace s0_4 := keepc hb2 s0_4 l0; replace r0 := keepc hb2 r0 l1; replace f0 := keepf hb2 f0 l1; replace r1 := keepc hb2 r1 l1; replace f1 := keepf hb2 f1 l1; replace r2 := keepc hb2 r2 l1; replace f2 := keepf hb2 f2 l1; replace r3 := keepc hb2 r3 l1; replace f3 := keepf hb2 f3 l1; replace r4 := keepc hb2 r4 l1; replace f4 := keepf hb2 f4 l1; replace l0 := Nat.lt_of_lt_of_le l0 hb2.size; replace l1 := Nat.lt_of_lt_of_le l1 hb2.size; replace hx1 := hx1.to hb2; replace hx2 := hx2.to hb2; replace hx3 := hx3.to hb2; replace h1 := h1.to hb2; replace HW := Lib.hid (hstep HW hb2); clear hb2))
  go_wp2_with fail
  exact bodyPost_ret (v := .agg #[.bool (sn (na (fr (nb x) 0 (nd x)))), .slice Z1 (ln (ab (na (fr (nb x) 0 (nd x))))) (ln (ab (na (fr (nb x) 0 (nd x))))), .bool (sn (nb (fr (nb x) 0 (nd x)))), .slice Z2 (ln (ab (nb (fr (nb x) 0 (nd x))))) (ln (ab (nb (fr (nb x) 0 (nd x))))), .slice Z3 (ln (un (fr (nb x) 0 (nd x)))) (ln (un (fr (nb x) 0 (nd x))))]) (by simp [results, Tryz.results41, go_sem, r0, r1, r2, r3, r4, f0, f1, f2, f3, f4]) rfl (retNum_fin HW h2 (by omega) r0)

set_option maxHeartbeats 4000000 in
theorem norm_num (x : Cx) (A1 A2 A3 : Option Addr) (w : World) (hx : Num3 w A1 A2 A3 x) (hsx : sz 137438953472 x) :
    Calls Tryz.prog 38 #[.agg #[.bool (sn (na x)), .slice A1 (ln (ab (na x))) (ln (ab (na x))), .bool (sn (nb x)), .slice A2 (ln (ab (nb x))) (ln (ab (nb x))), .slice A3 (ln (un x)) (ln (un x))]] w (RetNum w x.norm) := by
  obtain ⟨hx1, hx2, hx3⟩ := hx
  have HSX := Lib.hid hsx
  clear hsx
  rw [← norm_fr]
  go_enter Tryz.func38, Tryz.ntmps38
  go_wp2_with fail
  obtain ⟨W, hW⟩ : ∃ W : World, W = ((w.alloc (.cells #[.bool (sn (na x)), .slice A1 (ln (ab (na x))) (ln (ab (na x))), .bool (sn (nb x)), .slice A2 (ln (ab (nb x))) (ln (ab (nb x))), .slice A3 (ln (un x)) (ln (un x))] 30)).alloc (.cells #[.bool false, .slice none 0 0, .bool false, .slice none 0 0, .slice none 0 0] 30)) := ⟨_, rfl⟩
  have s0_0 : W.cell? ⟨w.heap.size, 0, none⟩ = some (.bool (sn (na x))) := by subst hW; go_simp
  have s0_1 : W.cell? ⟨w.heap.size, 1, none⟩ = some (.slice A1 (ln (ab (na x))) (ln (ab (na x)))) := by subst hW; go_simp
  have s0_2 : W.cell? ⟨w.heap.size, 2, none⟩ = some (.bool (sn (nb x))) := by subst hW; go_simp
  have s0_3 : W.cell? ⟨w.heap.size, 3, none⟩ = some (.slice A2 (ln (ab (nb x))) (ln (ab (nb x)))) := by subst hW; go_simp
  have s0_4 : W.cell? ⟨w.heap.size, 4, none⟩ = some (.slice A3 (ln (un x)) (ln (un x))) := by subst hW; go_simp
  have r0 : W.cell? ⟨w.heap.size + 1, 0, none⟩ = some (.bool false) := by subst hW; go_simp
  have f0 : W.frozen? ⟨w.heap.size + 1, 0, none⟩ = false := by subst hW; go_simp
  have r1 : W.cell? ⟨w.heap.size + 1, 1, none⟩ = some (.slice none 0 0) := by subst hW; go_simp
  have f1 : W.frozen? ⟨w.heap.size + 1, 1, none⟩ = false := by subst hW; go_simp
  have r2 : W.cell? ⟨w.heap.size + 1, 2, none⟩ = some (.bool false) := by subst hW; go_simp
  have f2 : W.frozen? ⟨w.heap.size + 1, 2, none⟩ = false := by subst hW; go_simp
  have r3 : W.cell? ⟨w.heap.size + 1, 3, none⟩ = some (.slice none 0 0) := by subst hW; go_simp
  have f3 : W.frozen? ⟨w.heap.size + 1, 3, none⟩ = false := by subst hW; go_simp
  have r4 : W.cell? ⟨w.heap.size + 1, 4, none⟩ = some (.slice none 0 0) := by subst hW; go_simp
  have f4 : W.frozen? ⟨w.heap.size + 1, 4, none⟩ = false := by subst hW; go_simp
  have HW : Below w.heap.size w W := by subst hW; exact (((Below.refl w.heap.size w).alloc (Nat.le_refl _) _).alloc (by simp) _)
  have l0 : w.heap.size < W.heap.size := by subst hW; simp <;> omega
  have l1 : w.heap.size + 1 < W.heap.size := by subst hW; simp
  have n0 : w.heap.size ≠ w.heap.size + 1 := by omega
  replace hx1 := hx1.to HW
  replace hx2 := hx2.to HW
  replace hx3 := hx3.to HW
  rw [← hW]
  clear hW
  replace HW := Lib.hid HW
  go_region_held3 (fun w' => w'.cell? ⟨w.heap.size, 0, none⟩ = some (.bool (sn (na x))) ∧ w'.cell? ⟨w.heap.size, 1, none⟩ = some (.slice A1 (ln (ab (na x))) (ln (ab (na x)))) ∧ w'.cell? ⟨w.heap.size, 2, none⟩ = some (.bool (sn (nb x))) ∧ w'.cell? ⟨w.heap.size, 3, none⟩ = some (.slice A2 (ln (ab (nb x))) (ln (ab (nb x)))) ∧ w'.cell? ⟨w.heap.size, 4, none⟩ = some (.slice A3 (ln (un x)) (ln (un x)))) (first | with_reducible exact ⟨s0_0, s0_1, s0_2, s0_3, s0_4⟩ | with_reducible exact ⟨(keeps (keeps (keeps (keeps (keeps s0_0 n0) n0) n0) n0) n0), (keeps (keeps (keeps (keeps (keeps s0_1 n0) n0) n0) n0) n0), (keeps (keeps (keeps (keeps (keeps s0_2 n0) n0) n0) n0) n0), (keeps (keeps (keeps (keeps (keeps s0_3 n0) n0) n0) n0) n0), (keeps (keeps (keeps (keeps (keeps s0_4 n0) n0) n0) n0) n0)⟩ | exact ⟨s0_0, s0_1, s0_2, s0_3, s0_4⟩) (first
    | (have _ := h4; go_at_call 89; refine (den_any x A1 A2 A3 _ (by exact num3_mk hx1 hx2 hx3)).mono ?_; rintro e w5 ⟨D5, rfl, h5, hb5⟩; replace s0_0 := keepc hb5 s0_0 l0; replace s0_1 := keepc hb5 s0_1 l0; replace s0_2 := keepc hb5 s0_2 l0; replace s0_3 := keepc hb5 s0_3 l0; replace s0_4 := keepc hb5 s0_4 l0; replace r0 := keepc hb5 r0 l1; replace f0 := keepf hb5 f0 l1; replace r1 := keepc hb5 r1 l1; replace f1 := keepf hb5 f1 l1; replace r2 := keepc hb5 r2 l1; replace f2 := keepf hb5 f2 l1; replace r3 := keepc hb5 r3 l1; replace f3 := keepf hb5 f3 l1; replace r4 := keepc hb5 r4 l1; replace f4 := keepf hb5 f4 l1; replace l0 := Nat.lt_of_lt_of_le l0 hb5.size; replace l1 := Nat.lt_of_lt_of_le l1 hb5.size; replace hx1 := hx1.to hb5; replace hx2 := hx2.to hb5; replace hx3 := hx3.to hb5; replace h1 := h1.to hb5; replace h2 := h2.to hb5; replace h3 := h3.to hb5; replace h4 := h4.to hb5; replace HW := Lib.hid (hstep HW hb5); clear hb5)
    | (go_at_call_of 104 (Value.slice A1 (ln (ab (na x))) (ln (ab (na x)))); refine (times_any (na x) (na x) A1 A1 _ (by exact hx1) (by exact hx1) (by have := HSX.out; unfold sz at this; omega) (by have := HSX.out; unfold sz at this; omega)).mono ?_; rintro e w1 ⟨S1, rfl, h1, hb1⟩; have hb1 := undrew hb1; replace s0_0 := keepc hb1 s0_0 l0; replace s0_1 := keepc hb1 s0_1 l0; replace s0_2 := keepc hb1 s0_2 l0; replace s0_3 := keepc hb1 s0_3 l0; replace s0_4 := keepc hb1 s0_4 l0; replace r0 := keepc hb1 r0 l1; replace f0 := keepf hb1 f0 l1; replace r1 := keepc hb1 r1 l1; replace f1 := keepf hb1 f1 l1; replace r2 := keepc hb1 r2 l1; replace f2 := keepf hb1 f2 l1; replace r3 := keepc hb1 r3 l1; replace f3 := keepf hb1 f3 l1; replace r4 := keepc hb1 r4 l1; replace f4 := keepf hb1 f4 l1; replace l0 := Nat.lt_of_lt_of_le l0 hb1.size; replace l1 := Nat.lt_of_lt_of_le l1 hb1.size; replace hx1 := hx1.to hb1; replace hx2 := hx2.to hb1; replace hx3 := hx3.to hb1; replace HW := Lib.hid (hstep HW hb1); clear hb1)
    | (go_at_call_of 104 (Value.slice A2 (ln (ab (nb x))) (ln (ab (nb x)))); refine (times_any (nb x) (nb x) A2 A2 _ (by exact hx2) (by exact hx2) (by have := HSX.out; unfold sz at this; omega) (by have := HSX.out; unfold sz at this; omega)).mono ?_; rintro e w2 ⟨S2, rfl, h2, hb2⟩; replace s0_0 := keepc hb2 s0_0 l0; replace s0_1 := keepc hb2 s0_1 l0; replace s0_2 := keepc hb2 s0_2 l0; replace s0_3 := keepc hb2 s0_3 l0; replace s0_4 := keepc hb2 s0_4 l0; replace r0 := keepc hb2 r0 l1; replace f0 := keepf hb2 f0 l1; replace r1 := keepc hb2 r1 l1; replace f1 := keepf hb2 f1 l1; replace r2 := keepc hb2 r2 l1; replace f2 := keepf hb2 f2 l1; replace r3 := keepc hb2 r3 l1; replace f3 := keepf hb2 f3 l1; replace r4 := keepc hb2 r4 l1; replace f4 := keepf hb2 f4 l1; replace l0 := Nat.lt_of_lt_of_le l0 hb2.size; replace l1 := Nat.lt_of_lt_of_le l1 hb2.size; replace hx1 := hx1.to hb2; replace hx2 := hx2.to hb2; replace hx3 := hx3.to hb2; replace h1 := h1.to hb2; replace HW := Lib.hid (hstep HW hb2); clear hb2)
    | (go_at_call 98; refine (plus_any (na x * na x) (nb x * nb x) S1 S2 _ (by exact h1) (by exact h2) (by have h := (ab_mul_ln HSX.out.1 HSX.out.1); omega) (by have h := (ab_mul_ln HSX.out.2.1 HSX.out.2.1); omega)).mono ?_; rintro e w3 ⟨S3, rfl, h3, hb3⟩; replace s0_0 := keepc hb3 s0_0 l0; replace s0_1 := keepc hb3 s0_1 l0; replace s0_2 := keepc hb3 s0_2 l0; replace s0_3 := keepc hb3 s0_3 l0; replace s0_4 := keepc hb3 s0_4 l0; replace r0 := keepc hb3 r0 l1; replace f0 := keepf hb3 f0 l1; replace r1 := keepc hb3 r1 l1; replace f1 := keepf hb3 f1 l1; replace r2 := keepc hb3 r2 l1; replace f2 := keepf hb3 f2 l1; replace r3 := keepc hb3 r3 l1; replace f3 := keepf hb3 f3 l1; replace r4 := keepc hb3 r4 l1; replace f4 := keepf hb3 f4 l1; replace l0 := Nat.lt_of_lt_of_le l0 hb3.size; replace l1 := Nat.lt_of_lt_of_le l1 hb3.size; replace hx1 := hx1.to hb3; replace hx2 := hx2.to hb3; replace hx3 := hx3.to hb3; replace h1 := h1.to hb3; replace h2 := h2.to hb3; replace HW := Lib.hid (hstep HW hb3); clear hb3)
    | (go_at_call 89; refine (den_any x A1 A2 A3 _ (by exact num3_mk hx1 hx2 hx3)).mono ?_; rintro e w4 ⟨D4, rfl, h4, hb4⟩; replace s0_0 := keepc hb4 s0_0 l0; replace s0_1 := keepc hb4 s0_1 l0; replace s0_2 := keepc hb4 s0_2 l0; replace s0_3 := keepc hb4 s0_3 l0; replace s0_4 := keepc hb4 s0_4 l0; replace r0 := keepc hb4 r0 l1; replace f0 := keepf hb4 f0 l1; replace r1 := keepc hb4 r1 l1; replace f1 := keepf hb4 f1 l1; replace r2 := keepc hb4 r2 l1; replace f2 := keepf hb4 f2 l1; replace r3 := keepc hb4 r3 l1; replace f3 := keepf hb4 f3 l1; replace r4 := keepc hb4 r4 l1; replace f4 := keepf hb4 f4 l1; replace l0 := Nat.lt_of_lt_of_le l0 hb4.size; replace l1 := Nat.lt_of_lt_of_le l1 hb4.size; replace hx1 := hx1.to hb4; replace hx2 := hx2.to hb4; replace hx3 := hx3.to hb4; replace h1 := h1.to hb4; replace h2 := h2.to hb4; replace h3 := h3.to hb4; replace HW := Lib.hid (hstep HW hb4); clear hb4)
    | (go_at_call 99; refine (mul_any (nd x) (nd x) D4 D5 _ (by exact h4) (by exact h5) (by have := HSX.out; unfold sz at this; omega) (by have := HSX.out; unfold sz at this; omega)).mono ?_; rintro e w6 ⟨S6, rfl, h6, hb6⟩; replace s0_0 := keepc hb6 s0_0 l0; replace s0_1 := keepc hb6 s0_1 l0; replace s0_2 := keepc hb6 s0_2 l0; replace s0_3 := keepc hb6 s0_3 l0; replace s0_4 := keepc hb6 s0_4 l0; replace r0 := keepc hb6 r0 l1; replace f0 := keepf hb6 f0 l1; replace r1 := keepc hb6 r1 l1; replace f1 := keepf hb6 f1 l1; replace r2 := keepc hb6 r2 l1; replace f2 := keepf hb6 f2 l1; replace r3 := keepc hb6 r3 l1; replace f3 := keepf hb6 f3 l1; replace r4 := keepc hb6 r4 l1; replace f4 := keepf hb6 f4 l1; replace l0 := Nat.lt_of_lt_of_le l0 hb6.size; replace l1 := Nat.lt_of_lt_of_le l1 hb6.size; replace hx1 := hx1.to hb6; replace hx2 := hx2.to hb6; replace hx3 := hx3.to hb6; replace h1 := h1.to hb6; replace h2 := h2.to hb6; replace h3 := h3.to hb6; replace h4 := h4.to hb6; replace h5 := h5.to hb6; replace HW := Lib.hid (hstep HW hb6); clear hb6)
    | (go_at_call 96; refine (over0_any (na x * na x + nb x * nb x) (nd x * nd x) S3 S6 _ (by exact h3) (by exact h6) (by have h := (ab_add_ln (K := 274877906944) (ab_mul_ln HSX.out.1 HSX.out.1) (ab_mul_ln HSX.out.2.1 HSX.out.2.1)); omega) (by have h := (nat_mul_ln HSX.out.2.2 HSX.out.2.2); omega) (Nat.mul_ne_zero (nd_ne0 x) (nd_ne0 x))).mono ?_; rintro e w7 ⟨Z1, Z2, Z3, rfl, h7, hb7⟩; replace s0_0 := keepc hb7 s0_0 l0; replace s0_1 := keepc hb7 s0_1 l0; replace s0_2 := keepc hb7 s0_2 l0; replace s0_3 := keepc hb7 s0_3 l0; replace s0_4 := keepc hb7 s0_4 l0; replace r0 := keepc hb7 r0 l1; replace f0 := keepf hb7 f0 l1; replace r1 := keepc hb7 r1 l1; replace f1 := keepf hb7 f1 l1; replace r2 := keepc hb7 r2 l1; replace f2 := keepf hb7 f2 l1; replace r3 := keepc hb7 r3 l1; replace f3 := keepf hb7 f3 l1; replace r4 := keepc hb7 r4 l1; replace f4 := keepf hb7 f4 l1; replace l0 := Nat.lt_of_lt_of_le l0 hb7.size; replace l1 := Nat.lt_of_lt_of_le l1 hb7.size; replace hx1 := hx1.to hb7; replace hx2 := hx2.to hb7; replace hx3 := hx3.to hb7; replace h1 := h1.to hb7; replace h2 := h2.to hb7; replace h3 := h3.to hb7; replace h4 := h4.to hb7; replace h5 := h5.to hb7; replace h6 := h6.to hb7; replace HW := Lib.hid (hstep HW hb7); clear hb7))
  go_wp2_with fail
  exact bodyPost_ret (v := .agg #[.bool (sn (na (fr (na x * na x + nb x * nb x) 0 (nd x * nd x)))), .slice Z1 (ln (ab (na (fr (na x * na x + nb x * nb x) 0 (nd x * nd x))))) (ln (ab (na (fr (na x * na x + nb x * nb x) 0 (nd x * nd x))))), .bool (sn (nb (fr (na x * na x + nb x * nb x) 0 (nd x * nd x)))), .slice Z2 (ln (ab (nb (fr (na x * na x + nb x * nb x) 0 (nd x * nd x))))) (ln (ab (nb (fr (na x * na x + nb x * nb x) 0 (nd x * nd x))))), .slice Z3 (ln (un (fr (na x * na x + nb x * nb x) 0 (nd x * nd x)))) (ln (un (fr (na x * na x + nb x * nb x) 0 (nd x * nd x))))]) (by simp [results, Tryz.results38, go_sem, r0, r1, r2, r3, r4, f0, f1, f2, f3, f4]) rfl (retNum_fin HW h7 (by omega) r0)

theorem ln_eq0 {n : Nat} (h : ln n = 0) : n = 0 := by
  rcases Nat.eq_zero_or_pos n with h1 | h1
  · exact h1
  · have := ln_pos (n := n) (by omega); omega

set_option maxHeartbeats 1000000 in
/-- 'x.Real()'. -/
theorem real_any (x : Cx) (A1 A2 A3 : Option Addr) (w : World) (hx : Num3 w A1 A2 A3 x) :
    Calls Tryz.prog 54 #[.agg #[.bool (sn (na x)), .slice A1 (ln (ab (na x))) (ln (ab (na x))), .bool (sn (nb x)), .slice A2 (ln (ab (nb x))) (ln (ab (nb x))), .slice A3 (ln (un x)) (ln (un x))]] w (RetBool w (decide (nb x = 0))) := by
  have e : decide (nb x = 0) = ((ln (ab (nb x)) : Int) == 0) := by
    rw [Bool.eq_iff_iff]; simp only [decide_eq_true_eq, beq_iff_eq]
    constructor
    · intro h; rw [h, show ab 0 = 0 from rfl, ln_zero]; rfl
    · intro h; have := ln_eq0 (n := ab (nb x)) (by omega); unfold ab at this; omega
  rw [e]
  clear e
  go_enter Tryz.func54, Tryz.ntmps54
  go_wp2_with fail
  go_ret
  exact ⟨rfl, (Below.refl _ _).alloc (Nat.le_refl _) _⟩

theorem clear_eq (x : Cx) : (!decide (x = Cx.zero)) = decide ((0 : Int) < (ln (ab (na x)) : Int) + (ln (ab (nb x)) : Int)) := by
  rw [Bool.eq_iff_iff]; simp only [decide_eq_true_eq, Bool.not_eq_true', decide_eq_false_iff_not, ← zero_iff]
  constructor
  · intro h
    rcases Nat.eq_zero_or_pos (ln (ab (na x)) + ln (ab (nb x))) with h1 | h1
    · have h2 := ln_eq0 (n := ab (na x)) (by omega); have h3 := ln_eq0 (n := ab (nb x)) (by omega)
      unfold ab at h2 h3; exact absurd ⟨by omega, by omega⟩ h
    · omega
  · rintro h ⟨h1, h2⟩
    rw [h1, h2, show ab 0 = 0 from rfl, ln_zero] at h; omega

set_option maxHeartbeats 1000000 in
/-- 'x.Clear()'. -/
theorem clear_any (x : Cx) (A1 A2 A3 : Option Addr) (w : World) (hx : Num3 w A1 A2 A3 x) (hsx : sz 1099511627776 x) :
    Calls Tryz.prog 46 #[.agg #[.bool (sn (na x)), .slice A1 (ln (ab (na x))) (ln (ab (na x))), .bool (sn (nb x)), .slice A2 (ln (ab (nb x))) (ln (ab (nb x))), .slice A3 (ln (un x)) (ln (un x))]] w (RetBool w (!decide (x = Cx.zero))) := by
  have h1 : ln (ab (na x)) ≤ 1099511627776 := hsx.1
  have h2 : ln (ab (nb x)) ≤ 1099511627776 := hsx.2.1
  rw [clear_eq]
  clear hsx
  go_enter Tryz.func46, Tryz.ntmps46
  go_wp2_with fail
  go_ret
  refine ⟨?_, (Below.refl _ _).alloc (Nat.le_refl _) _⟩
  rfl

set_option maxHeartbeats 4000000 in
theorem wcmp_lt (a b : Int) (A B : Option Addr) (w : World) (hx : Nat32 w A (ab a)) (hy : Nat32 w B (ab b)) (hbx : ln (ab a) ≤ 549755813888) (hby : ln (ab b) ≤ 549755813888) (h : a < b) :
    Calls Tryz.prog 108 #[.agg #[.bool (sn (a)), .slice A (ln (ab (a))) (ln (ab (a)))], .agg #[.bool (sn (b)), .slice B (ln (ab (b))) (ln (ab (b)))]] w (RetInt w (-1)) := by
  have HX := Lib.hid hbx
  have HY := Lib.hid hby
  clear hbx hby
  have T : Hid (sn (a + -b) = true) := Lib.hid (by unfold sn; rw [decide_eq_true_eq]; omega)
  clear h
  go_enter Tryz.func108, Tryz.ntmps108
  go_wp2_with fail
  obtain ⟨W, hW⟩ : ∃ W : World, W = ((w.alloc (.cells #[.bool (sn (a)), .slice A (ln (ab (a))) (ln (ab (a)))] 28)).alloc (.cells #[.bool (sn (b)), .slice B (ln (ab (b))) (ln (ab (b)))] 28)) := ⟨_, rfl⟩
  have s0_0 : W.cell? ⟨w.heap.size, 0, none⟩ = some (.bool (sn (a))) := by subst hW; go_simp
  have s0_1 : W.cell? ⟨w.heap.size, 1, none⟩ = some (.slice A (ln (ab (a))) (ln (ab (a)))) := by subst hW; go_simp
  have s1_0 : W.cell? ⟨w.heap.size + 1, 0, none⟩ = some (.bool (sn (b))) := by subst hW; go_simp
  have s1_1 : W.cell? ⟨w.heap.size + 1, 1, none⟩ = some (.slice B (ln (ab (b))) (ln (ab (b)))) := by subst hW; go_simp
  have HW : Below w.heap.size w W := by subst hW; exact (((Below.refl w.heap.size w).alloc (Nat.le_refl _) _).alloc (by simp) _)
  have l0 : w.heap.size < W.heap.size := by subst hW; simp <;> omega
  have l1 : w.heap.size + 1 < W.heap.size := by subst hW; simp
  replace hx := hx.to HW
  replace hy := hy.to HW
  rw [← hW]
  clear hW
  replace HW := Lib.hid HW
  go_upto_region 1 with fail
  go_cut [5] (fun p wx => VarWhole W (a + -b) p wx)
  case first =>
    have gB : Hid (Below W.heap.size W W) := Lib.hid (Below.refl _ _)
    go_region_held3 (fun w' => w'.cell? ⟨w.heap.size, 0, none⟩ = some (.bool (sn (a))) ∧ w'.cell? ⟨w.heap.size, 1, none⟩ = some (.slice A (ln (ab (a))) (ln (ab (a)))) ∧ w'.cell? ⟨w.heap.size + 1, 0, none⟩ = some (.bool (sn (b))) ∧ w'.cell? ⟨w.heap.size + 1, 1, none⟩ = some (.slice B (ln (ab (b))) (ln (ab (b))))) (first | with_reducible exact ⟨s0_0, s0_1, s1_0, s1_1⟩ | with_reducible exact ⟨(keepa s0_0 l0), (keepa s0_1 l0), (keepa s1_0 l1), (keepa s1_1 l1)⟩ | with_reducible exact ⟨(keeps (keeps s0_0 gn0) gn0), (keeps (keeps s0_1 gn0) gn0), (keeps (keeps s1_0 gn1) gn1), (keeps (keeps s1_1 gn1) gn1)⟩ | exact ⟨s0_0, s0_1, s1_0, s1_1⟩ | exact ⟨(keepa s0_0 l0), (keepa s0_1 l0), (keepa s1_0 l1), (keepa s1_1 l1)⟩) (first
      | (go_at_call 105; refine (minus_any b B _ (by first | with_reducible exact hy | with_reducible exact hy.alloc _ | exact hy | exact hy.alloc _)).mono ?_; rintro e w1 ⟨S1, rfl, h1, ha1⟩; have hb1 : Below W.heap.size W w1 := (by first | with_reducible exact ha1 | with_reducible exact undrew ha1 | with_reducible exact unalloc ha1 | with_reducible exact undrewalloc ha1 | with_reducible exact undrew (unalloc ha1)); (try replace ga0 := keepc hb1 ga0 gl); (try replace ga1 := keepc hb1 ga1 gl); (try replace gf0 := keepf hb1 gf0 gl); (try replace gf1 := keepf hb1 gf1 gl); (try replace gl := Nat.lt_of_lt_of_le gl hb1.size); (try (have gx := (by first | with_reducible exact newvar ha1 | with_reducible exact newvard ha1 | with_reducible exact newvare ha1 : NewVar W w1); have ga0 := gx.1; have ga1 := gx.2.1; have gf0 := gx.2.2.1; have gf1 := gx.2.2.2.1; have gl := gx.2.2.2.2; have gge := gB.out.size; have gn0 := Nat.ne_of_lt l0; have gn1 := Nat.ne_of_lt l1; clear gx)); replace gB := Lib.hid (onto gB.out hb1); replace s0_0 := keepc hb1 s0_0 l0; replace s0_1 := keepc hb1 s0_1 l0; replace s1_0 := keepc hb1 s1_0 l1; replace s1_1 := keepc hb1 s1_1 l1; replace l0 := Nat.lt_of_lt_of_le l0 hb1.size; replace l1 := Nat.lt_of_lt_of_le l1 hb1.size; replace hx := hx.to hb1; replace hy := hy.to hb1; replace HW := Lib.hid (hstep HW hb1); clear hb1; clear ha1)
      | (go_at_call 98; refine (plus_any a (-b) A S1 _ (by first | with_reducible exact hx | with_reducible exact hx.alloc _ | exact hx | exact hx.alloc _) (by first | with_reducible exact h1 | with_reducible exact h1.alloc _ | exact h1 | exact h1.alloc _) (by have := HX.out; omega) (by rw [ab_neg]; have := HY.out; omega)).mono ?_; rintro e w2 ⟨S2, rfl, h2, ha2⟩; have hb2 : Below w1.heap.size w1 w2 := (by first | with_reducible exact ha2 | with_reducible exact undrew ha2 | with_reducible exact unalloc ha2 | with_reducible exact undrewalloc ha2 | with_reducible exact undrew (unalloc ha2)); (try replace ga0 := keepc hb2 ga0 gl); (try replace ga1 := keepc hb2 ga1 gl); (try replace gf0 := keepf hb2 gf0 gl); (try replace gf1 := keepf hb2 gf1 gl); (try replace gl := Nat.lt_of_lt_of_le gl hb2.size); (try (have gx := (by first | with_reducible exact newvar ha2 | with_reducible exact newvard ha2 | with_reducible exact newvare ha2 : NewVar w1 w2); have ga0 := gx.1; have ga1 := gx.2.1; have gf0 := gx.2.2.1; have gf1 := gx.2.2.2.1; have gl := gx.2.2.2.2; have gge := gB.out.size; have gn0 := Nat.ne_of_lt l0; have gn1 := Nat.ne_of_lt l1; clear gx)); replace gB := Lib.hid (onto gB.out hb2); replace s0_0 := keepc hb2 s0_0 l0; replace s0_1 := keepc hb2 s0_1 l0; replace s1_0 := keepc hb2 s1_0 l1; replace s1_1 := keepc hb2 s1_1 l1; replace l0 := Nat.lt_of_lt_of_le l0 hb2.size; replace l1 := Nat.lt_of_lt_of_le l1 hb2.size; replace hx := hx.to hb2; replace hy := hy.to hb2; replace h1 := h1.to hb2; replace HW := Lib.hid (hstep HW hb2); clear hb2; clear ha2))
    all_goals
      go_wp2_with fail
      go_meet
      first | exact varWhole_set gB.out ga0 ga1 gf0 gf1 h2 gge gl | exact varWhole_new gB.out h2
  case rest =>
  obtain ⟨g0, V0, hp0, t0_0, t0_1, u0_0, u0_1, hv0, hg0, l100, hb1⟩ := hcut
  subst hp0
  obtain ⟨w1, rfl⟩ : ∃ X : World, X = wc := ⟨_, rfl⟩
  replace s0_0 := keepc hb1 s0_0 l0
  replace s0_1 := keepc hb1 s0_1 l0
  replace s1_0 := keepc hb1 s1_0 l1
  replace s1_1 := keepc hb1 s1_1 l1
  replace l0 := Nat.lt_of_lt_of_le l0 hb1.size
  replace l1 := Nat.lt_of_lt_of_le l1 hb1.size
  replace hx := hx.to hb1
  replace hy := hy.to hb1
  replace HW := Lib.hid (hstep HW hb1)
  clear hb1
  have t := T.out
  go_wp2_with fail
  go_ret
  exact ⟨rfl, HW.out⟩

set_option maxHeartbeats 4000000 in
theorem wcmp_eq (a b : Int) (A B : Option Addr) (w : World) (hx : Nat32 w A (ab a)) (hy : Nat32 w B (ab b)) (hbx : ln (ab a) ≤ 549755813888) (hby : ln (ab b) ≤ 549755813888) (h : a = b) :
    Calls Tryz.prog 108 #[.agg #[.bool (sn (a)), .slice A (ln (ab (a))) (ln (ab (a)))], .agg #[.bool (sn (b)), .slice B (ln (ab (b))) (ln (ab (b)))]] w (RetInt w (0)) := by
  have HX := Lib.hid hbx
  have HY := Lib.hid hby
  clear hbx hby
  have T : Hid (sn (a + -b) = false) := Lib.hid (by unfold sn; rw [decide_eq_false_iff_not]; omega)
  have T2 : Hid (ln (ab (a + -b)) = 0) := Lib.hid (by rw [show a + -b = 0 by omega]; exact ln_zero)
  clear h
  go_enter Tryz.func108, Tryz.ntmps108
  go_wp2_with fail
  obtain ⟨W, hW⟩ : ∃ W : World, W = ((w.alloc (.cells #[.bool (sn (a)), .slice A (ln (ab (a))) (ln (ab (a)))] 28)).alloc (.cells #[.bool (sn (b)), .slice B (ln (ab (b))) (ln (ab (b)))] 28)) := ⟨_, rfl⟩
  have s0_0 : W.cell? ⟨w.heap.size, 0, none⟩ = some (.bool (sn (a))) := by subst hW; go_simp
  have s0_1 : W.cell? ⟨w.heap.size, 1, none⟩ = some (.slice A (ln (ab (a))) (ln (ab (a)))) := by subst hW; go_simp
  have s1_0 : W.cell? ⟨w.heap.size + 1, 0, none⟩ = some (.bool (sn (b))) := by subst hW; go_simp
  have s1_1 : W.cell? ⟨w.heap.size + 1, 1, none⟩ = some (.slice B (ln (ab (b))) (ln (ab (b)))) := by subst hW; go_simp
  have HW : Below w.heap.size w W := by subst hW; exact (((Below.refl w.heap.size w).alloc (Nat.le_refl _) _).alloc (by simp) _)
  have l0 : w.heap.size < W.heap.size := by subst hW; simp <;> omega
  have l1 : w.heap.size + 1 < W.heap.size := by subst hW; simp
  replace hx := hx.to HW
  replace hy := hy.to HW
  rw [← hW]
  clear hW
  replace HW := Lib.hid HW
  go_upto_region 1 with fail
  go_cut [5] (fun p wx => VarWhole W (a + -b) p wx)
  case first =>
    have gB : Hid (Below W.heap.size W W) := Lib.hid (Below.refl _ _)
    go_region_held3 (fun w' => w'.cell? ⟨w.heap.size, 0, none⟩ = some (.bool (sn (a))) ∧ w'.cell? ⟨w.heap.size, 1, none⟩ = some (.slice A (ln (ab (a))) (ln (ab (a)))) ∧ w'.cell? ⟨w.heap.size + 1, 0, none⟩ = some (.bool (sn (b))) ∧ w'.cell? ⟨w.heap.size + 1, 1, none⟩ = some (.slice B (ln (ab (b))) (ln (ab (b))))) (first | with_reducible exact ⟨s0_0, s0_1, s1_0, s1_1⟩ | with_reducible exact ⟨(keepa s0_0 l0), (keepa s0_1 l0), (keepa s1_0 l1), (keepa s1_1 l1)⟩ | with_reducible exact ⟨(keeps (keeps s0_0 gn0) gn0), (keeps (keeps s0_1 gn0) gn0), (keeps (keeps s1_0 gn1) gn1), (keeps (keeps s1_1 gn1) gn1)⟩ | exact ⟨s0_0, s0_1, s1_0, s1_1⟩ | exact ⟨(keepa s0_0 l0), (keepa s0_1 l0), (keepa s1_0 l1), (keepa s1_1 l1)⟩) (first
      | (go_at_call 105; refine (minus_any b B _ (by first | with_reducible exact hy | with_reducible exact hy.alloc _ | exact hy | exact hy.alloc _)).mono ?_; rintro e w1 ⟨S1, rfl, h1, ha1⟩; have hb1 : Below W.heap.size W w1 := (by first | with_reducible exact ha1 | with_reducible exact undrew ha1 | with_reducible exact unalloc ha1 | with_reducible exact undrewalloc ha1 | with_reducible exact undrew (unalloc ha1)); (try replace ga0 := keepc hb1 ga0 gl); (try replace ga1 := keepc hb1 ga1 gl); (try replace gf0 := keepf hb1 gf0 gl); (try replace gf1 := keepf hb1 gf1 gl); (try replace gl := Nat.lt_of_lt_of_le gl hb1.size); (try (have gx := (by first | with_reducible exact newvar ha1 | with_reducible exact newvard ha1 | with_reducible exact newvare ha1 : NewVar W w1); have ga0 := gx.1; have ga1 := gx.2.1; have gf0 := gx.2.2.1; have gf1 := gx.2.2.2.1; have gl := gx.2.2.2.2; have gge := gB.out.size; have gn0 := Nat.ne_of_lt l0; have gn1 := Nat.ne_of_lt l1; clear gx)); replace gB := Lib.hid (onto gB.out hb1); replace s0_0 := keepc hb1 s0_0 l0; replace s0_1 := keepc hb1 s0_1 l0; replace s1_0 := keepc hb1 s1_0 l1; replace s1_1 := keepc hb1 s1_1 l1; replace l0 := Nat.lt_of_lt_of_le l0 hb1.size; replace l1 := Nat.lt_of_lt_of_le l1 hb1.size; replace hx := hx.to hb1; replace hy := hy.to hb1; replace HW := Lib.hid (hstep HW hb1); clear hb1; clear ha1)
      | (go_at_call 98; refine (plus_any a (-b) A S1 _ (by first | with_reducible exact hx | with_reducible exact hx.alloc _ | exact hx | exact hx.alloc _) (by first | with_reducible exact h1 | with_reducible exact h1.alloc _ | exact h1 | exact h1.alloc _) (by have := HX.out; omega) (by rw [ab_neg]; have := HY.out; omega)).mono ?_; rintro e w2 ⟨S2, rfl, h2, ha2⟩; have hb2 : Below w1.heap.size w1 w2 := (by first | with_reducible exact ha2 | with_reducible exact undrew ha2 | with_reducible exact unalloc ha2 | with_reducible exact undrewalloc ha2 | with_reducible exact undrew (unalloc ha2)); (try replace ga0 := keepc hb2 ga0 gl); (try replace ga1 := keepc hb2 ga1 gl); (try replace gf0 := keepf hb2 gf0 gl); (try replace gf1 := keepf hb2 gf1 gl); (try replace gl := Nat.lt_of_lt_of_le gl hb2.size); (try (have gx := (by first | with_reducible exact newvar ha2 | with_reducible exact newvard ha2 | with_reducible exact newvare ha2 : NewVar w1 w2); have ga0 := gx.1; have ga1 := gx.2.1; have gf0 := gx.2.2.1; have gf1 := gx.2.2.2.1; have gl := gx.2.2.2.2; have gge := gB.out.size; have gn0 := Nat.ne_of_lt l0; have gn1 := Nat.ne_of_lt l1; clear gx)); replace gB := Lib.hid (onto gB.out hb2); replace s0_0 := keepc hb2 s0_0 l0; replace s0_1 := keepc hb2 s0_1 l0; replace s1_0 := keepc hb2 s1_0 l1; replace s1_1 := keepc hb2 s1_1 l1; replace l0 := Nat.lt_of_lt_of_le l0 hb2.size; replace l1 := Nat.lt_of_lt_of_le l1 hb2.size; replace hx := hx.to hb2; replace hy := hy.to hb2; replace h1 := h1.to hb2; replace HW := Lib.hid (hstep HW hb2); clear hb2; clear ha2))
    all_goals
      go_wp2_with fail
      go_meet
      first | exact varWhole_set gB.out ga0 ga1 gf0 gf1 h2 gge gl | exact varWhole_new gB.out h2
  case rest =>
  obtain ⟨g0, V0, hp0, t0_0, t0_1, u0_0, u0_1, hv0, hg0, l100, hb1⟩ := hcut
  subst hp0
  obtain ⟨w1, rfl⟩ : ∃ X : World, X = wc := ⟨_, rfl⟩
  replace s0_0 := keepc hb1 s0_0 l0
  replace s0_1 := keepc hb1 s0_1 l0
  replace s1_0 := keepc hb1 s1_0 l1
  replace s1_1 := keepc hb1 s1_1 l1
  replace l0 := Nat.lt_of_lt_of_le l0 hb1.size
  replace l1 := Nat.lt_of_lt_of_le l1 hb1.size
  replace hx := hx.to hb1
  replace hy := hy.to hb1
  replace HW := Lib.hid (hstep HW hb1)
  clear hb1
  have t := T.out
  have t2 := T2.out
  go_wp2_with fail
  go_ret
  exact ⟨rfl, HW.out⟩

set_option maxHeartbeats 4000000 in
theorem wcmp_gt (a b : Int) (A B : Option Addr) (w : World) (hx : Nat32 w A (ab a)) (hy : Nat32 w B (ab b)) (hbx : ln (ab a) ≤ 549755813888) (hby : ln (ab b) ≤ 549755813888) (h : b < a) :
    Calls Tryz.prog 108 #[.agg #[.bool (sn (a)), .slice A (ln (ab (a))) (ln (ab (a)))], .agg #[.bool (sn (b)), .slice B (ln (ab (b))) (ln (ab (b)))]] w (RetInt w (1)) := by
  have HX := Lib.hid hbx
  have HY := Lib.hid hby
  clear hbx hby
  have T : Hid (sn (a + -b) = false) := Lib.hid (by unfold sn; rw [decide_eq_false_iff_not]; omega)
  have T2 : Hid (0 < ln (ab (a + -b))) := Lib.hid (ln_pos (by unfold ab; omega))
  clear h
  go_enter Tryz.func108, Tryz.ntmps108
  go_wp2_with fail
  obtain ⟨W, hW⟩ : ∃ W : World, W = ((w.alloc (.cells #[.bool (sn (a)), .slice A (ln (ab (a))) (ln (ab (a)))] 28)).alloc (.cells #[.bool (sn (b)), .slice B (ln (ab (b))) (ln (ab (b)))] 28)) := ⟨_, rfl⟩
  have s0_0 : W.cell? ⟨w.heap.size, 0, none⟩ = some (.bool (sn (a))) := by subst hW; go_simp
  have s0_1 : W.cell? ⟨w.heap.size, 1, none⟩ = some (.slice A (ln (ab (a))) (ln (ab (a)))) := by subst hW; go_simp
  have s1_0 : W.cell? ⟨w.heap.size + 1, 0, none⟩ = some (.bool (sn (b))) := by subst hW; go_simp
  have s1_1 : W.cell? ⟨w.heap.size + 1, 1, none⟩ = some (.slice B (ln (ab (b))) (ln (ab (b)))) := by subst hW; go_simp
  have HW : Below w.heap.size w W := by subst hW; exact (((Below.refl w.heap.size w).alloc (Nat.le_refl _) _).alloc (by simp) _)
  have l0 : w.heap.size < W.heap.size := by subst hW; simp <;> omega
  have l1 : w.heap.size + 1 < W.heap.size := by subst hW; simp
  replace hx := hx.to HW
  replace hy := hy.to HW
  rw [← hW]
  clear hW
  replace HW := Lib.hid HW
  go_upto_region 1 with fail
  go_cut [5] (fun p wx => VarWhole W (a + -b) p wx)
  case first =>
    have gB : Hid (Below W.heap.size W W) := Lib.hid (Below.refl _ _)
    go_region_held3 (fun w' => w'.cell? ⟨w.heap.size, 0, none⟩ = some (.bool (sn (a))) ∧ w'.cell? ⟨w.heap.size, 1, none⟩ = some (.slice A (ln (ab (a))) (ln (ab (a)))) ∧ w'.cell? ⟨w.heap.size + 1, 0, none⟩ = some (.bool (sn (b))) ∧ w'.cell? ⟨w.heap.size + 1, 1, none⟩ = some (.slice B (ln (ab (b))) (ln (ab (b))))) (first | with_reducible exact ⟨s0_0, s0_1, s1_0, s1_1⟩ | with_reducible exact ⟨(keepa s0_0 l0), (keepa s0_1 l0), (keepa s1_0 l1), (keepa s1_1 l1)⟩ | with_reducible exact ⟨(keeps (keeps s0_0 gn0) gn0), (keeps (keeps s0_1 gn0) gn0), (keeps (keeps s1_0 gn1) gn1), (keeps (keeps s1_1 gn1) gn1)⟩ | exact ⟨s0_0, s0_1, s1_0, s1_1⟩ | exact ⟨(keepa s0_0 l0), (keepa s0_1 l0), (keepa s1_0 l1), (keepa s1_1 l1)⟩) (first
      | (go_at_call 105; refine (minus_any b B _ (by first | with_reducible exact hy | with_reducible exact hy.alloc _ | exact hy | exact hy.alloc _)).mono ?_; rintro e w1 ⟨S1, rfl, h1, ha1⟩; have hb1 : Below W.heap.size W w1 := (by first | with_reducible exact ha1 | with_reducible exact undrew ha1 | with_reducible exact unalloc ha1 | with_reducible exact undrewalloc ha1 | with_reducible exact undrew (unalloc ha1)); (try replace ga0 := keepc hb1 ga0 gl); (try replace ga1 := keepc hb1 ga1 gl); (try replace gf0 := keepf hb1 gf0 gl); (try replace gf1 := keepf hb1 gf1 gl); (try replace gl := Nat.lt_of_lt_of_le gl hb1.size); (try (have gx := (by first | with_reducible exact newvar ha1 | with_reducible exact newvard ha1 | with_reducible exact newvare ha1 : NewVar W w1); have ga0 := gx.1; have ga1 := gx.2.1; have gf0 := gx.2.2.1; have gf1 := gx.2.2.2.1; have gl := gx.2.2.2.2; have gge := gB.out.size; have gn0 := Nat.ne_of_lt l0; have gn1 := Nat.ne_of_lt l1; clear gx)); replace gB := Lib.hid (onto gB.out hb1); replace s0_0 := keepc hb1 s0_0 l0; replace s0_1 := keepc hb1 s0_1 l0; replace s1_0 := keepc hb1 s1_0 l1; replace s1_1 := keepc hb1 s1_1 l1; replace l0 := Nat.lt_of_lt_of_le l0 hb1.size; replace l1 := Nat.lt_of_lt_of_le l1 hb1.size; replace hx := hx.to hb1; replace hy := hy.to hb1; replace HW := Lib.hid (hstep HW hb1); clear hb1; clear ha1)
      | (go_at_call 98; refine (plus_any a (-b) A S1 _ (by first | with_reducible exact hx | with_reducible exact hx.alloc _ | exact hx | exact hx.alloc _) (by first | with_reducible exact h1 | with_reducible exact h1.alloc _ | exact h1 | exact h1.alloc _) (by have := HX.out; omega) (by rw [ab_neg]; have := HY.out; omega)).mono ?_; rintro e w2 ⟨S2, rfl, h2, ha2⟩; have hb2 : Below w1.heap.size w1 w2 := (by first | with_reducible exact ha2 | with_reducible exact undrew ha2 | with_reducible exact unalloc ha2 | with_reducible exact undrewalloc ha2 | with_reducible exact undrew (unalloc ha2)); (try replace ga0 := keepc hb2 ga0 gl); (try replace ga1 := keepc hb2 ga1 gl); (try replace gf0 := keepf hb2 gf0 gl); (try replace gf1 := keepf hb2 gf1 gl); (try replace gl := Nat.lt_of_lt_of_le gl hb2.size); (try (have gx := (by first | with_reducible exact newvar ha2 | with_reducible exact newvard ha2 | with_reducible exact newvare ha2 : NewVar w1 w2); have ga0 := gx.1; have ga1 := gx.2.1; have gf0 := gx.2.2.1; have gf1 := gx.2.2.2.1; have gl := gx.2.2.2.2; have gge := gB.out.size; have gn0 := Nat.ne_of_lt l0; have gn1 := Nat.ne_of_lt l1; clear gx)); replace gB := Lib.hid (onto gB.out hb2); replace s0_0 := keepc hb2 s0_0 l0; replace s0_1 := keepc hb2 s0_1 l0; replace s1_0 := keepc hb2 s1_0 l1; replace s1_1 := keepc hb2 s1_1 l1; replace l0 := Nat.lt_of_lt_of_le l0 hb2.size; replace l1 := Nat.lt_of_lt_of_le l1 hb2.size; replace hx := hx.to hb2; replace hy := hy.to hb2; replace h1 := h1.to hb2; replace HW := Lib.hid (hstep HW hb2); clear hb2; clear ha2))
    all_goals
      go_wp2_with fail
      go_meet
      first | exact varWhole_set gB.out ga0 ga1 gf0 gf1 h2 gge gl | exact varWhole_new gB.out h2
  case rest =>
  obtain ⟨g0, V0, hp0, t0_0, t0_1, u0_0, u0_1, hv0, hg0, l100, hb1⟩ := hcut
  subst hp0
  obtain ⟨w1, rfl⟩ : ∃ X : World, X = wc := ⟨_, rfl⟩
  replace s0_0 := keepc hb1 s0_0 l0
  replace s0_1 := keepc hb1 s0_1 l0
  replace s1_0 := keepc hb1 s1_0 l1
  replace s1_1 := keepc hb1 s1_1 l1
  replace l0 := Nat.lt_of_lt_of_le l0 hb1.size
  replace l1 := Nat.lt_of_lt_of_le l1 hb1.size
  replace hx := hx.to hb1
  replace hy := hy.to hb1
  replace HW := Lib.hid (hstep HW hb1)
  clear hb1
  have t := T.out
  go_wp2_with fail
  go_ret
  exact ⟨ret_int (by have := T2.out; omega), HW.out⟩

/-- 'a.cmp(b)'. -/
theorem wcmp_any (a b : Int) (A B : Option Addr) (w : World) (hx : Nat32 w A (ab a)) (hy : Nat32 w B (ab b)) (hbx : ln (ab a) ≤ 549755813888) (hby : ln (ab b) ≤ 549755813888) :
    Calls Tryz.prog 108 #[.agg #[.bool (sn (a)), .slice A (ln (ab (a))) (ln (ab (a)))], .agg #[.bool (sn (b)), .slice B (ln (ab (b))) (ln (ab (b)))]] w (RetInt w (cmpZ a b)) := by
  rcases Int.lt_trichotomy a b with h | h | h
  · rw [cmpZ_lt h]; exact wcmp_lt a b A B w hx hy hbx hby h
  · rw [cmpZ_eq h]; exact wcmp_eq a b A B w hx hy hbx hby h
  · rw [cmpZ_gt h]; exact wcmp_gt a b A B w hx hy hbx hby h

end Go.Proofs.YtgpmlhpgdalheaaGreat
