/- Num: den, Neg, Conj, Clear, Real, Add, Sub. Conditions: at most 2^38 words. -/
import Derived.Test.YtgpmlhpgdalheaaGreatNum1
namespace Go.Proofs.YtgpmlhpgdalheaaGreat
open Go.RowKit Pl
set_option linter.unusedVariables false
set_option linter.unusedSimpArgs false

theorem num3_mk {w : World} {A1 A2 A3 : Option Addr} {q : Cx} (h1 : Nat32 w A1 (ab (na q))) (h2 : Nat32 w A2 (ab (nb q))) (h3 : Nat32 w A3 (un q)) : Num3 w A1 A2 A3 q := ⟨h1, h2, h3⟩

/-- At most K words each. -/
def sz (K : Nat) (q : Cx) : Prop := ln (ab (na q)) ≤ K ∧ ln (ab (nb q)) ≤ K ∧ ln (nd q) ≤ K
theorem sz.mono {K L : Nat} {q : Cx} (h : sz K q) (hl : K ≤ L) : sz L q := ⟨Nat.le_trans h.1 hl, Nat.le_trans h.2.1 hl, Nat.le_trans h.2.2 hl⟩
theorem un_ln (q : Cx) : ln (un q) ≤ ln (nd q) := by unfold un; split; rw [ln_zero]; omega; exact Nat.le_refl _
theorem ab_add_ln {a b : Int} {K : Nat} (ha : ln (ab a) ≤ K) (hb : ln (ab b) ≤ K) : ln (ab (a + b)) ≤ K + 1 := by
  have h : ab (a + b) ≤ ab a + ab b := by unfold ab; omega
  have := ln_mono h
  have := ln_add (ab a) (ab b)
  omega
theorem ab_mul_ln {a b : Int} {K L : Nat} (ha : ln (ab a) ≤ K) (hb : ln (ab b) ≤ L) : ln (ab (a * b)) ≤ K + L := by
  have h : ab (a * b) = ab a * ab b := Int.natAbs_mul a b
  rw [h]; have := ln_mul (ab a) (ab b); omega
theorem ab_nat_ln {n K : Nat} (h : ln n ≤ K) : ln (ab (n : Int)) ≤ K := by unfold ab; rw [Int.natAbs_natCast]; exact h
theorem ab_neg (a : Int) : ab (-a) = ab a := by unfold ab; omega
theorem sn_neg_of (a : Int) (h : ab a = 0) : sn (-a) = false := by unfold ab at h; unfold sn; rw [decide_eq_false_iff_not]; omega
theorem nat_mul_ln {a b K L : Nat} (ha : ln a ≤ K) (hb : ln b ≤ L) : ln (a * b) ≤ K + L := by have := ln_mul a b; omega

/-- The form of a fraction is no longer than the fraction. -/
theorem fr_sz {a b : Int} {d K : Nat} (hd : d ≠ 0) (ha : ln (ab a) ≤ K) (hb : ln (ab b) ≤ K) (hdl : ln d ≤ K) : sz K (fr a b d) := by
  obtain ⟨_, f2, _, f4, f5⟩ := over_form (a := a) (b := b) hd
  exact ⟨by rw [f2]; exact Nat.le_trans (ln_mono (Nat.div_le_self _ _)) ha, by rw [f4]; exact Nat.le_trans (ln_mono (Nat.div_le_self _ _)) hb, by rw [f5]; exact Nat.le_trans (ln_mono (Nat.div_le_self _ _)) hdl⟩

theorem nd_ne0 (q : Cx) : nd q ≠ 0 := by have := nd_pos q; omega
theorem sz_add {K : Nat} {x y : Cx} (hx : sz K x) (hy : sz K y) : sz (2 * K + 1) (x.add y) := by
  rw [← add_fr]
  refine fr_sz (by have := nd_pos x; have := nd_pos y; exact Nat.mul_ne_zero (nd_ne0 x) (nd_ne0 y)) ?_ ?_ ?_
  · have := ab_add_ln (ab_mul_ln hx.1 (ab_nat_ln hy.2.2)) (ab_mul_ln hy.1 (ab_nat_ln hx.2.2)); omega
  · have := ab_add_ln (ab_mul_ln hx.2.1 (ab_nat_ln hy.2.2)) (ab_mul_ln hy.2.1 (ab_nat_ln hx.2.2)); omega
  · have := nat_mul_ln hx.2.2 hy.2.2; omega
theorem sz_mul {K : Nat} {x y : Cx} (hx : sz K x) (hy : sz K y) : sz (2 * K + 1) (x.mul y) := by
  rw [← mul_fr, Int.sub_eq_add_neg]
  refine fr_sz (Nat.mul_ne_zero (nd_ne0 x) (nd_ne0 y)) ?_ ?_ ?_
  · have := ab_add_ln (ab_mul_ln hx.1 hy.1) (b := -(nb x * nb y)) (by rw [ab_neg]; exact ab_mul_ln hx.2.1 hy.2.1); omega
  · have := ab_add_ln (ab_mul_ln hx.1 hy.2.1) (ab_mul_ln hx.2.1 hy.1); omega
  · have := nat_mul_ln hx.2.2 hy.2.2; omega
theorem sz_neg {K : Nat} {x : Cx} (hx : sz K x) : sz K x.neg := by
  obtain ⟨h1, h2, h3⟩ := neg_form x
  unfold sz; rw [h1, h2, h3, ab_neg, ab_neg]; exact hx
theorem sz_conj {K : Nat} {x : Cx} (hx : sz K x) : sz K x.conj := by
  obtain ⟨h1, h2, h3⟩ := conj_form x
  unfold sz; rw [h1, h2, h3, ab_neg]; exact hx

theorem un_one {q : Cx} (h : nd q = 1) : un q = 0 := by unfold un; rw [if_pos h]
theorem un_more {q : Cx} (h : nd q ≠ 1) : un q = nd q := by unfold un; rw [if_neg h]

set_option maxHeartbeats 1000000 in
/-- 'x.den()'. -/
theorem den_any (x : Cx) (A1 A2 A3 : Option Addr) (w : World) (hx : Num3 w A1 A2 A3 x) :
    Calls Tryz.prog 89 #[.agg #[.bool (sn (na x)), .slice A1 (ln (ab (na x))) (ln (ab (na x))), .bool (sn (nb x)), .slice A2 (ln (ab (nb x))) (ln (ab (nb x))), .slice A3 (ln (un x)) (ln (un x))]] w (RetNat w (nd x)) := by
  by_cases h1 : nd x = 1
  · have t : ((ln (un x) : Int) == 0) = true := by rw [un_one h1, ln_zero]; rfl
    have H1 := Lib.hid h1
    clear h1
    go_enter Tryz.func89, Tryz.ntmps89
    go_wp2_with fail
    go_ret
    rw [H1.out]
    refine ⟨some ⟨w.heap.size + 1, 0, none⟩, by rw [ln_one]; rfl, fun _ => ⟨w.heap.size + 1, rfl, by simp, fun j hj => ?_⟩, ((Below.refl _ _).alloc (Nat.le_refl _) _).alloc (by simp) _⟩
    rw [ln_one] at hj
    obtain rfl : j = 0 := by omega
    rw [show wd 1 0 = 1 by rw [wd_0]]
    go_simp
  · have h0 : un x ≠ 0 := by rw [un_more h1]; exact nd_ne0 x
    have t : ((ln (un x) : Int) == 0) = false := by have := ln_pos h0; simpa using fun e => by omega
    have H1 := Lib.hid (un_more h1)
    clear h1
    go_enter Tryz.func89, Tryz.ntmps89
    go_wp2_with fail
    go_ret
    exact ⟨A3, by rw [← H1.out]; rfl, by rw [← H1.out]; exact hx.2.2.alloc _, (Below.refl _ _).alloc (Nat.le_refl _) _⟩

set_option maxHeartbeats 4000000 in
theorem neg_any (x : Cx) (A1 A2 A3 : Option Addr) (w : World) (hx : Num3 w A1 A2 A3 x) :
    Calls Tryz.prog 34 #[.agg #[.bool (sn (na x)), .slice A1 (ln (ab (na x))) (ln (ab (na x))), .bool (sn (nb x)), .slice A2 (ln (ab (nb x))) (ln (ab (nb x))), .slice A3 (ln (un x)) (ln (un x))]] w (RetNum w x.neg) := by
  obtain ⟨hx1, hx2, hx3⟩ := hx
  obtain ⟨e1, e2, e3⟩ := neg_form x
  have E := Lib.hid (And.intro e1 (And.intro e2 e3))
  clear e1 e2 e3
  go_enter Tryz.func34, Tryz.ntmps34
  go_wp2_with fail
  obtain ⟨W, hW⟩ : ∃ W : World, W = ((w.alloc (.cells #[.bool (sn (na x)), .slice A1 (ln (ab (na x))) (ln (ab (na x))), .bool (sn (nb x)), .slice A2 (ln (ab (nb x))) (ln (ab (nb x))), .slice A3 (ln (un x)) (ln (un x))] 30)).alloc (.cells #[.bool false, .slice none 0 0, .bool false, .slice none 0 0, .slice none 0 0] 30)) := ⟨_, rfl⟩
  have s0_0 : W.cell? ⟨w.heap.size, 0, none⟩ = some (.bool (sn (na x))) := by subst hW; go_simp
  have s0_1 : W.cell? ⟨w.heap.size, 1, none⟩ = some (.slice A1 (ln (ab (na x))) (ln (ab (na x)))) := by subst hW; go_simp
  have s0_2 : W.cell? ⟨w.heap.size, 2, none⟩ = some (.bool (sn (nb x))) := by subst hW; go_simp
  have s0_3 : W.cell? ⟨w.heap.size, 3, none⟩ = some (.slice A2 (ln (ab (nb x))) (ln (ab (nb x)))) := by subst hW; go_simp
  have s0_4 : W.cell? ⟨w.heap.size, 4, none⟩ = some (.slice A3 (ln (un x)) (ln (un x))) := by subst hW; go_simp
  have r0 : W.cell? ⟨w.heap.size + 1, 0, none⟩ = some (.bool false) := by subst hW; go_simp
  have f0 : W.frozen? ⟨w.heap.size + 1, 0, none⟩ = false := by subst hW; go_simp
  have r1 : W.cell? ⟨w.heap.size + 1, 1, none⟩ = some (.slice none 0 0) := by subst hW; go_simp
  have f1 : W.frozen? ⟨w.heap.size + 1, 1, none⟩ = false := by subst hW; go_simp
  have r2 : W.cell? ⟨w.heap.size + 1, 2, none⟩ = some (.bool false) := by subst hW; go_simp
  have f2 : W.frozen? ⟨w.heap.size + 1, 2, none⟩ = false := by subst hW; go_simp
  have r3 : W.cell? ⟨w.heap.size + 1, 3, none⟩ = some (.slice none 0 0) := by subst hW; go_simp
  have f3 : W.frozen? ⟨w.heap.size + 1, 3, none⟩ = false := by subst hW; go_simp
  have r4 : W.cell? ⟨w.heap.size + 1, 4, none⟩ = some (.slice none 0 0) := by subst hW; go_simp
  have f4 : W.frozen? ⟨w.heap.size + 1, 4, none⟩ = false := by subst hW; go_simp
  have HW : Below w.heap.size w W := by subst hW; exact (((Below.refl w.heap.size w).alloc (Nat.le_refl _) _).alloc (by simp) _)
  have l0 : w.heap.size < W.heap.size := by subst hW; simp <;> omega
  have l1 : w.heap.size + 1 < W.heap.size := by subst hW; simp
  have n0 : w.heap.size ≠ w.heap.size + 1 := by omega
  replace hx1 := hx1.to HW
  replace hx2 := hx2.to HW
  replace hx3 := hx3.to HW
  rw [← hW]
  clear hW
  replace HW := Lib.hid HW
  go_region_held3 (fun w' => w'.cell? ⟨w.heap.size, 0, none⟩ = some (.bool (sn (na x))) ∧ w'.cell? ⟨w.heap.size, 1, none⟩ = some (.slice A1 (ln (ab (na x))) (ln (ab (na x)))) ∧ w'.cell? ⟨w.heap.size, 2, none⟩ = some (.bool (sn (nb x))) ∧ w'.cell? ⟨w.heap.size, 3, none⟩ = some (.slice A2 (ln (ab (nb x))) (ln (ab (nb x)))) ∧ w'.cell? ⟨w.heap.size, 4, none⟩ = some (.slice A3 (ln (un x)) (ln (un x)))) (first | with_reducible exact ⟨s0_0, s0_1, s0_2, s0_3, s0_4⟩ | with_reducible exact ⟨(keeps (keeps (keeps (keeps (keeps s0_0 n0) n0) n0) n0) n0), (keeps (keeps (keeps (keeps (keeps s0_1 n0) n0) n0) n0) n0), (keeps (keeps (keeps (keeps (keeps s0_2 n0) n0) n0) n0) n0), (keeps (keeps (keeps (keeps (keeps s0_3 n0) n0) n0) n0) n0), (keeps (keeps (keeps (keeps (keeps s0_4 n0) n0) n0) n0) n0)⟩ | exact ⟨s0_0, s0_1, s0_2, s0_3, s0_4⟩) (first
    | (go_at_call_of 105 (Value.slice A1 (ln (ab (na x))) (ln (ab (na x)))); refine (minus_any (na x) A1 _ (by exact hx1)).mono ?_; rintro e w1 ⟨A11, rfl, h1, hb1⟩; have hb1 := undrew hb1; replace s0_0 := keepc hb1 s0_0 l0; replace s0_1 := keepc hb1 s0_1 l0; replace s0_2 := keepc hb1 s0_2 l0; replace s0_3 := keepc hb1 s0_3 l0; replace s0_4 := keepc hb1 s0_4 l0; replace r0 := keepc hb1 r0 l1; replace f0 := keepf hb1 f0 l1; replace r1 := keepc hb1 r1 l1; replace f1 := keepf hb1 f1 l1; replace r2 := keepc hb1 r2 l1; replace f2 := keepf hb1 f2 l1; replace r3 := keepc hb1 r3 l1; replace f3 := keepf hb1 f3 l1; replace r4 := keepc hb1 r4 l1; replace f4 := keepf hb1 f4 l1; replace l0 := Nat.lt_of_lt_of_le l0 hb1.size; replace l1 := Nat.lt_of_lt_of_le l1 hb1.size; replace hx1 := hx1.to hb1; replace hx2 := hx2.to hb1; replace hx3 := hx3.to hb1; replace HW := Lib.hid (hstep HW hb1); clear hb1)
    | (go_at_call_of 105 (Value.slice A2 (ln (ab (nb x))) (ln (ab (nb x)))); refine (minus_any (nb x) A2 _ (by exact hx2)).mono ?_; rintro e w2 ⟨A12, rfl, h2, hb2⟩; replace s0_0 := keepc hb2 s0_0 l0; replace s0_1 := keepc hb2 s0_1 l0; replace s0_2 := keepc hb2 s0_2 l0; replace s0_3 := keepc hb2 s0_3 l0; replace s0_4 := keepc hb2 s0_4 l0; replace r0 := keepc hb2 r0 l1; replace f0 := keepf hb2 f0 l1; replace r1 := keepc hb2 r1 l1; replace f1 := keepf hb2 f1 l1; replace r2 := keepc hb2 r2 l1; replace f2 := keepf hb2 f2 l1; replace r3 := keepc hb2 r3 l1; replace f3 := keepf hb2 f3 l1; replace r4 := keepc hb2 r4 l1; replace f4 := keepf hb2 f4 l1; replace l0 := Nat.lt_of_lt_of_le l0 hb2.size; replace l1 := Nat.lt_of_lt_of_le l1 hb2.size; replace hx1 := hx1.to hb2; replace hx2 := hx2.to hb2; replace hx3 := hx3.to hb2; replace h1 := h1.to hb2; replace HW := Lib.hid (hstep HW hb2); clear hb2))
  go_wp2_with fail
  refine bodyPost_ret (v := .agg #[.bool (sn (-na x)), .slice A11 (ln (ab (-na x))) (ln (ab (-na x))), .bool (sn (-nb x)), .slice A12 (ln (ab (-nb x))) (ln (ab (-nb x))), .slice A3 (ln (un x)) (ln (un x))]) (by simp [results, Tryz.results34, go_sem, r0, r1, r2, r3, r4, f0, f1, f2, f3, f4]) rfl ?_
  have e0 : un x.neg = un x := by unfold un; rw [E.out.2.2]
  have := retNum_fin (q := x.neg) (A1 := A11) (A2 := A12) (A3 := A3) HW ⟨by rw [E.out.1]; exact h1, by rw [E.out.2.1]; exact h2, by rw [e0]; exact hx3⟩ (by omega) r0
  rw [E.out.1, E.out.2.1, e0] at this
  exact this

set_option maxHeartbeats 4000000 in
theorem conj_any (x : Cx) (A1 A2 A3 : Option Addr) (w : World) (hx : Num3 w A1 A2 A3 x) :
    Calls Tryz.prog 36 #[.agg #[.bool (sn (na x)), .slice A1 (ln (ab (na x))) (ln (ab (na x))), .bool (sn (nb x)), .slice A2 (ln (ab (nb x))) (ln (ab (nb x))), .slice A3 (ln (un x)) (ln (un x))]] w (RetNum w x.conj) := by
  obtain ⟨hx1, hx2, hx3⟩ := hx
  obtain ⟨e1, e2, e3⟩ := conj_form x
  have E := Lib.hid (And.intro e1 (And.intro e2 e3))
  clear e1 e2 e3
  go_enter Tryz.func36, Tryz.ntmps36
  go_wp2_with fail
  obtain ⟨W, hW⟩ : ∃ W : World, W = ((w.alloc (.cells #[.bool (sn (na x)), .slice A1 (ln (ab (na x))) (ln (ab (na x))), .bool (sn (nb x)), .slice A2 (ln (ab (nb x))) (ln (ab (nb x))), .slice A3 (ln (un x)) (ln (un x))] 30)).alloc (.cells #[.bool false, .slice none 0 0, .bool false, .slice none 0 0, .slice none 0 0] 30)) := ⟨_, rfl⟩
  have s0_0 : W.cell? ⟨w.heap.size, 0, none⟩ = some (.bool (sn (na x))) := by subst hW; go_simp
  have s0_1 : W.cell? ⟨w.heap.size, 1, none⟩ = some (.slice A1 (ln (ab (na x))) (ln (ab (na x)))) := by subst hW; go_simp
  have s0_2 : W.cell? ⟨w.heap.size, 2, none⟩ = some (.bool (sn (nb x))) := by subst hW; go_simp
  have s0_3 : W.cell? ⟨w.heap.size, 3, none⟩ = some (.slice A2 (ln (ab (nb x))) (ln (ab (nb x)))) := by subst hW; go_simp
  have s0_4 : W.cell? ⟨w.heap.size, 4, none⟩ = some (.slice A3 (ln (un x)) (ln (un x))) := by subst hW; go_simp
  have r0 : W.cell? ⟨w.heap.size + 1, 0, none⟩ = some (.bool false) := by subst hW; go_simp
  have f0 : W.frozen? ⟨w.heap.size + 1, 0, none⟩ = false := by subst hW; go_simp
  have r1 : W.cell? ⟨w.heap.size + 1, 1, none⟩ = some (.slice none 0 0) := by subst hW; go_simp
  have f1 : W.frozen? ⟨w.heap.size + 1, 1, none⟩ = false := by subst hW; go_simp
  have r2 : W.cell? ⟨w.heap.size + 1, 2, none⟩ = some (.bool false) := by subst hW; go_simp
  have f2 : W.frozen? ⟨w.heap.size + 1, 2, none⟩ = false := by subst hW; go_simp
  have r3 : W.cell? ⟨w.heap.size + 1, 3, none⟩ = some (.slice none 0 0) := by subst hW; go_simp
  have f3 : W.frozen? ⟨w.heap.size + 1, 3, none⟩ = false := by subst hW; go_simp
  have r4 : W.cell? ⟨w.heap.size + 1, 4, none⟩ = some (.slice none 0 0) := by subst hW; go_simp
  have f4 : W.frozen? ⟨w.heap.size + 1, 4, none⟩ = false := by subst hW; go_simp
  have HW : Below w.heap.size w W := by subst hW; exact (((Below.refl w.heap.size w).alloc (Nat.le_refl _) _).alloc (by simp) _)
  have l0 : w.heap.size < W.heap.size := by subst hW; simp <;> omega
  have l1 : w.heap.size + 1 < W.heap.size := by subst hW; simp
  have n0 : w.heap.size ≠ w.heap.size + 1 := by omega
  replace hx1 := hx1.to HW
  replace hx2 := hx2.to HW
  replace hx3 := hx3.to HW
  rw [← hW]
  clear hW
  replace HW := Lib.hid HW
  go_region_held3 (fun w' => w'.cell? ⟨w.heap.size, 0, none⟩ = some (.bool (sn (na x))) ∧ w'.cell? ⟨w.heap.size, 1, none⟩ = some (.slice A1 (ln (ab (na x))) (ln (ab (na x)))) ∧ w'.cell? ⟨w.heap.size, 2, none⟩ = some (.bool (sn (nb x))) ∧ w'.cell? ⟨w.heap.size, 3, none⟩ = some (.slice A2 (ln (ab (nb x))) (ln (ab (nb x)))) ∧ w'.cell? ⟨w.heap.size, 4, none⟩ = some (.slice A3 (ln (un x)) (ln (un x)))) (first | with_reducible exact ⟨s0_0, s0_1, s0_2, s0_3, s0_4⟩ | with_reducible exact ⟨(keeps (keeps (keeps (keeps (keeps s0_0 n0) n0) n0) n0) n0), (keeps (keeps (keeps (keeps (keeps s0_1 n0) n0) n0) n0) n0), (keeps (keeps (keeps (keeps (keeps s0_2 n0) n0) n0) n0) n0), (keeps (keeps (keeps (keeps (keeps s0_3 n0) n0) n0) n0) n0), (keeps (keeps (keeps (keeps (keeps s0_4 n0) n0) n0) n0) n0)⟩ | exact ⟨s0_0, s0_1, s0_2, s0_3, s0_4⟩) (first
    | (go_at_call 105; refine (minus_any (nb x) A2 _ (by exact hx2)).mono ?_; rintro e w1 ⟨A12, rfl, h2, hb1⟩; have hb1 := undrew hb1; replace s0_0 := keepc hb1 s0_0 l0; replace s0_1 := keepc hb1 s0_1 l0; replace s0_2 := keepc hb1 s0_2 l0; replace s0_3 := keepc hb1 s0_3 l0; replace s0_4 := keepc hb1 s0_4 l0; replace r0 := keepc hb1 r0 l1; replace f0 := keepf hb1 f0 l1; replace r1 := keepc hb1 r1 l1; replace f1 := keepf hb1 f1 l1; replace r2 := keepc hb1 r2 l1; replace f2 := keepf hb1 f2 l1; replace r3 := keepc hb1 r3 l1; replace f3 := keepf hb1 f3 l1; replace r4 := keepc hb1 r4 l1; replace f4 := keepf hb1 f4 l1; replace l0 := Nat.lt_of_lt_of_le l0 hb1.size; replace l1 := Nat.lt_of_lt_of_le l1 hb1.size; replace hx1 := hx1.to hb1; replace hx2 := hx2.to hb1; replace hx3 := hx3.to hb1; replace HW := Lib.hid (hstep HW hb1); clear hb1))
  go_wp2_with fail
  refine bodyPost_ret (v := .agg #[.bool (sn (na x)), .slice A1 (ln (ab (na x))) (ln (ab (na x))), .bool (sn (-nb x)), .slice A12 (ln (ab (-nb x))) (ln (ab (-nb x))), .slice A3 (ln (un x)) (ln (un x))]) (by simp [results, Tryz.results36, go_sem, r0, r1, r2, r3, r4, f0, f1, f2, f3, f4]) rfl ?_
  have e0 : un x.conj = un x := by unfold un; rw [E.out.2.2]
  have := retNum_fin (q := x.conj) (A1 := A1) (A2 := A12) (A3 := A3) HW ⟨by rw [E.out.1]; exact hx1, by rw [E.out.2.1]; exact h2, by rw [e0]; exact hx3⟩ (by omega) r0
  rw [E.out.1, E.out.2.1, e0] at this
  exact this

end Go.Proofs.YtgpmlhpgdalheaaGreat
