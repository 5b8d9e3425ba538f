/- Part 2 of the proof. -/
import Derived.Test.YtdpjknjlhchmcaaNM1
import Derived.Deep.DeepCutAuto
namespace Go.Proofs.Ytdpjknjlhchmcaa
open Go.RowKit Pl
set_option linter.unusedVariables false
set_option linter.unusedSimpArgs false
theorem num3_mk {w : World} {A1 A2 A3 : Option Addr} {q : Cx} (h1 : Nat32 w A1 (ab (na q))) (h2 : Nat32 w A2 (ab (nb q))) (h3 : Nat32 w A3 (un q)) : Num3 w A1 A2 A3 q := ⟨h1, h2, h3⟩
/-- At most K words each. -/
def sz (K : Nat) (q : Cx) : Prop := ln (ab (na q)) ≤ K ∧ ln (ab (nb q)) ≤ K ∧ ln (nd q) ≤ K
theorem sz.mono {K L : Nat} {q : Cx} (h : sz K q) (hl : K ≤ L) : sz L q := ⟨Nat.le_trans h.1 hl, Nat.le_trans h.2.1 hl, Nat.le_trans h.2.2 hl⟩
theorem un_ln (q : Cx) : ln (un q) ≤ ln (nd q) := by unfold un; split; rw [ln_zero]; omega; exact Nat.le_refl _
theorem ab_add_ln {a b : Int} {K : Nat} (ha : ln (ab a) ≤ K) (hb : ln (ab b) ≤ K) : ln (ab (a + b)) ≤ K + 1 := by
  have h : ab (a + b) ≤ ab a + ab b := by unfold ab; omega
  have := ln_mono h
  have := ln_add (ab a) (ab b)
  omega
theorem ab_mul_ln {a b : Int} {K L : Nat} (ha : ln (ab a) ≤ K) (hb : ln (ab b) ≤ L) : ln (ab (a * b)) ≤ K + L := by
  have h : ab (a * b) = ab a * ab b := Int.natAbs_mul a b
  rw [h]; have := ln_mul (ab a) (ab b); omega
theorem ab_nat_ln {n K : Nat} (h : ln n ≤ K) : ln (ab (n : Int)) ≤ K := by unfold ab; rw [Int.natAbs_natCast]; exact h
theorem ab_neg (a : Int) : ab (-a) = ab a := by unfold ab; omega
theorem nat_mul_ln {a b K L : Nat} (ha : ln a ≤ K) (hb : ln b ≤ L) : ln (a * b) ≤ K + L := by have := ln_mul a b; omega
/-- The form of a fraction is no longer than the fraction. -/
theorem fr_sz {a b : Int} {d K : Nat} (hd : d ≠ 0) (ha : ln (ab a) ≤ K) (hb : ln (ab b) ≤ K) (hdl : ln d ≤ K) : sz K (fr a b d) := by
  obtain ⟨_, f2, _, f4, f5⟩ := over_form (a := a) (b := b) hd
  exact ⟨by rw [f2]; exact Nat.le_trans (ln_mono (Nat.div_le_self _ _)) ha, by rw [f4]; exact Nat.le_trans (ln_mono (Nat.div_le_self _ _)) hb, by rw [f5]; exact Nat.le_trans (ln_mono (Nat.div_le_self _ _)) hdl⟩
theorem nd_ne0 (q : Cx) : nd q ≠ 0 := by have := nd_pos q; omega
theorem sz_add {K : Nat} {x y : Cx} (hx : sz K x) (hy : sz K y) : sz (2 * K + 1) (x.add y) := by
  rw [← add_fr]
  refine fr_sz (by have := nd_pos x; have := nd_pos y; exact Nat.mul_ne_zero (nd_ne0 x) (nd_ne0 y)) ?_ ?_ ?_
  · have := ab_add_ln (ab_mul_ln hx.1 (ab_nat_ln hy.2.2)) (ab_mul_ln hy.1 (ab_nat_ln hx.2.2)); omega
  · have := ab_add_ln (ab_mul_ln hx.2.1 (ab_nat_ln hy.2.2)) (ab_mul_ln hy.2.1 (ab_nat_ln hx.2.2)); omega
  · have := nat_mul_ln hx.2.2 hy.2.2; omega
theorem sz_mul {K : Nat} {x y : Cx} (hx : sz K x) (hy : sz K y) : sz (2 * K + 1) (x.mul y) := by
  rw [← mul_fr, Int.sub_eq_add_neg]
  refine fr_sz (Nat.mul_ne_zero (nd_ne0 x) (nd_ne0 y)) ?_ ?_ ?_
  · have := ab_add_ln (ab_mul_ln hx.1 hy.1) (b := -(nb x * nb y)) (by rw [ab_neg]; exact ab_mul_ln hx.2.1 hy.2.1); omega
  · have := ab_add_ln (ab_mul_ln hx.1 hy.2.1) (ab_mul_ln hx.2.1 hy.1); omega
  · have := nat_mul_ln hx.2.2 hy.2.2; omega
theorem sz_neg {K : Nat} {x : Cx} (hx : sz K x) : sz K x.neg := by
  obtain ⟨h1, h2, h3⟩ := neg_form x
  unfold sz; rw [h1, h2, h3, ab_neg, ab_neg]; exact hx
theorem sz_conj {K : Nat} {x : Cx} (hx : sz K x) : sz K x.conj := by
  obtain ⟨h1, h2, h3⟩ := conj_form x
  unfold sz; rw [h1, h2, h3, ab_neg]; exact hx
theorem un_one {q : Cx} (h : nd q = 1) : un q = 0 := by unfold un; rw [if_pos h]
theorem un_more {q : Cx} (h : nd q ≠ 1) : un q = nd q := by unfold un; rw [if_neg h]
set_option maxHeartbeats 1000000 in
/-- 'x.den()'. -/
theorem den_any (x : Cx) (A1 A2 A3 : Option Addr) (w : World) (hx : Num3 w A1 A2 A3 x) :
    Calls Try.prog 36 #[.agg #[.bool (sn (na x)), .slice A1 (ln (ab (na x))) (ln (ab (na x))), .bool (sn (nb x)), .slice A2 (ln (ab (nb x))) (ln (ab (nb x))), .slice A3 (ln (un x)) (ln (un x))]] w (RetNat w (nd x)) := by
  by_cases h1 : nd x = 1
  · have t : ((ln (un x) : Int) == 0) = true := by rw [un_one h1, ln_zero]; rfl
    have H1 := Lib.hid h1
    clear h1
    go_enter Try.func36, Try.ntmps36
    go_wp2_with fail
    go_ret
    rw [H1.out]
    refine ⟨some ⟨w.heap.size + 1, 0, none⟩, by rw [ln_one]; rfl, fun _ => ⟨w.heap.size + 1, rfl, by simp, fun j hj => ?_⟩, ((Below.refl _ _).alloc (Nat.le_refl _) _).alloc (by simp) _⟩
    rw [ln_one] at hj
    obtain rfl : j = 0 := by omega
    rw [show wd 1 0 = 1 by rw [wd_0]]
    go_simp
  · have h0 : un x ≠ 0 := by rw [un_more h1]; exact nd_ne0 x
    have t : ((ln (un x) : Int) == 0) = false := by have := ln_pos h0; simpa using fun e => by omega
    have H1 := Lib.hid (un_more h1)
    clear h1
    go_enter Try.func36, Try.ntmps36
    go_wp2_with fail
    go_ret
    exact ⟨A3, by rw [← H1.out]; rfl, by rw [← H1.out]; exact hx.2.2.alloc _, (Below.refl _ _).alloc (Nat.le_refl _) _⟩
set_option maxHeartbeats 4000000 in
theorem neg_any (x : Cx) (A1 A2 A3 : Option Addr) (w : World) (hx : Num3 w A1 A2 A3 x) :
    Calls Try.prog 14 #[.agg #[.bool (sn (na x)), .slice A1 (ln (ab (na x))) (ln (ab (na x))), .bool (sn (nb x)), .slice A2 (ln (ab (nb x))) (ln (ab (nb x))), .slice A3 (ln (un x)) (ln (un x))]] w (RetNum w x.neg) := by
  obtain ⟨hx1, hx2, hx3⟩ := hx
  obtain ⟨e1, e2, e3⟩ := neg_form x
  have E := Lib.hid (And.intro e1 (And.intro e2 e3))
  clear e1 e2 e3
  go_enter Try.func14, Try.ntmps14
  go_wp2_with fail
  obtain ⟨W, hW⟩ : ∃ W : World, W = ((w.alloc (.cells #[.bool (sn (na x)), .slice A1 (ln (ab (na x))) (ln (ab (na x))), .bool (sn (nb x)), .slice A2 (ln (ab (nb x))) (ln (ab (nb x))), .slice A3 (ln (un x)) (ln (un x))] 34)).alloc (.cells #[.bool false, .slice none 0 0, .bool false, .slice none 0 0, .slice none 0 0] 34)) := ⟨_, rfl⟩
  have s0_0 : W.cell? ⟨w.heap.size, 0, none⟩ = some (.bool (sn (na x))) := by subst hW; go_simp
  have s0_1 : W.cell? ⟨w.heap.size, 1, none⟩ = some (.slice A1 (ln (ab (na x))) (ln (ab (na x)))) := by subst hW; go_simp
  have s0_2 : W.cell? ⟨w.heap.size, 2, none⟩ = some (.bool (sn (nb x))) := by subst hW; go_simp
  have s0_3 : W.cell? ⟨w.heap.size, 3, none⟩ = some (.slice A2 (ln (ab (nb x))) (ln (ab (nb x)))) := by subst hW; go_simp
  have s0_4 : W.cell? ⟨w.heap.size, 4, none⟩ = some (.slice A3 (ln (un x)) (ln (un x))) := by subst hW; go_simp
  have r0 : W.cell? ⟨w.heap.size + 1, 0, none⟩ = some (.bool false) := by subst hW; go_simp
  have f0 : W.frozen? ⟨w.heap.size + 1, 0, none⟩ = false := by subst hW; go_simp
  have r1 : W.cell? ⟨w.heap.size + 1, 1, none⟩ = some (.slice none 0 0) := by subst hW; go_simp
  have f1 : W.frozen? ⟨w.heap.size + 1, 1, none⟩ = false := by subst hW; go_simp
  have r2 : W.cell? ⟨w.heap.size + 1, 2, none⟩ = some (.bool false) := by subst hW; go_simp
  have f2 : W.frozen? ⟨w.heap.size + 1, 2, none⟩ = false := by subst hW; go_simp
  have r3 : W.cell? ⟨w.heap.size + 1, 3, none⟩ = some (.slice none 0 0) := by subst hW; go_simp
  have f3 : W.frozen? ⟨w.heap.size + 1, 3, none⟩ = false := by subst hW; go_simp
  have r4 : W.cell? ⟨w.heap.size + 1, 4, none⟩ = some (.slice none 0 0) := by subst hW; go_simp
  have f4 : W.frozen? ⟨w.heap.size + 1, 4, none⟩ = false := by subst hW; go_simp
  have HW : Below w.heap.size w W := by subst hW; exact (((Below.refl w.heap.size w).alloc (Nat.le_refl _) _).alloc (by simp) _)
  have l0 : w.heap.size < W.heap.size := by subst hW; simp <;> omega
  have l1 : w.heap.size + 1 < W.heap.size := by subst hW; simp
  have n0 : w.heap.size ≠ w.heap.size + 1 := by omega
  replace hx1 := hx1.to HW
  replace hx2 := hx2.to HW
  replace hx3 := hx3.to HW
  rw [← hW]
  clear hW
  replace HW := Lib.hid HW
  go_region_held3 (fun w' => w'.cell? ⟨w.heap.size, 0, none⟩ = some (.bool (sn (na x))) ∧ w'.cell? ⟨w.heap.size, 1, none⟩ = some (.slice A1 (ln (ab (na x))) (ln (ab (na x)))) ∧ w'.cell? ⟨w.heap.size, 2, none⟩ = some (.bool (sn (nb x))) ∧ w'.cell? ⟨w.heap.size, 3, none⟩ = some (.slice A2 (ln (ab (nb x))) (ln (ab (nb x)))) ∧ w'.cell? ⟨w.heap.size, 4, none⟩ = some (.slice A3 (ln (un x)) (ln (un x)))) (first | with_reducible exact ⟨s0_0, s0_1, s0_2, s0_3, s0_4⟩ | with_reducible exact ⟨(keeps (keeps (keeps (keeps (keeps s0_0 n0) n0) n0) n0) n0), (keeps (keeps (keeps (keeps (keeps s0_1 n0) n0) n0) n0) n0), (keeps (keeps (keeps (keeps (keeps s0_2 n0) n0) n0) n0) n0), (keeps (keeps (keeps (keeps (keeps s0_3 n0) n0) n0) n0) n0), (keeps (keeps (keeps (keeps (keeps s0_4 n0) n0) n0) n0) n0)⟩ | exact ⟨s0_0, s0_1, s0_2, s0_3, s0_4⟩) (first
    | (go_at_call_of 34 (Value.slice A1 (ln (ab (na x))) (ln (ab (na x)))); refine (minus_any (na x) A1 _ (by exact hx1)).mono ?_; rintro e w1 ⟨A11, rfl, h1, hb1⟩; have hb1 := undrew hb1; replace s0_0 := keepc hb1 s0_0 l0; replace s0_1 := keepc hb1 s0_1 l0; replace s0_2 := keepc hb1 s0_2 l0; replace s0_3 := keepc hb1 s0_3 l0; replace s0_4 := keepc hb1 s0_4 l0; replace r0 := keepc hb1 r0 l1; replace f0 := keepf hb1 f0 l1; replace r1 := keepc hb1 r1 l1; replace f1 := keepf hb1 f1 l1; replace r2 := keepc hb1 r2 l1; replace f2 := keepf hb1 f2 l1; replace r3 := keepc hb1 r3 l1; replace f3 := keepf hb1 f3 l1; replace r4 := keepc hb1 r4 l1; replace f4 := keepf hb1 f4 l1; replace l0 := Nat.lt_of_lt_of_le l0 hb1.size; replace l1 := Nat.lt_of_lt_of_le l1 hb1.size; replace hx1 := hx1.to hb1; replace hx2 := hx2.to hb1; replace hx3 := hx3.to hb1; replace HW := Lib.hid (hstep HW hb1); clear hb1)
    | (go_at_call_of 34 (Value.slice A2 (ln (ab (nb x))) (ln (ab (nb x)))); refine (minus_any (nb x) A2 _ (by exact hx2)).mono ?_; rintro e w2 ⟨A12, rfl, h2, hb2⟩; replace s0_0 := keepc hb2 s0_0 l0; replace s0_1 := keepc hb2 s0_1 l0; replace s0_2 := keepc hb2 s0_2 l0; replace s0_3 := keepc hb2 s0_3 l0; replace s0_4 := keepc hb2 s0_4 l0; replace r0 := keepc hb2 r0 l1; replace f0 := keepf hb2 f0 l1; replace r1 := keepc hb2 r1 l1; replace f1 := keepf hb2 f1 l1; replace r2 := keepc hb2 r2 l1; replace f2 := keepf hb2 f2 l1; replace r3 := keepc hb2 r3 l1; replace f3 := keepf hb2 f3 l1; replace r4 := keepc hb2 r4 l1; replace f4 := keepf hb2 f4 l1; replace l0 := Nat.lt_of_lt_of_le l0 hb2.size; replace l1 := Nat.lt_of_lt_of_le l1 hb2.size; replace hx1 := hx1.to hb2; replace hx2 := hx2.to hb2; replace hx3 := hx3.to hb2; replace h1 := h1.to hb2; replace HW := Lib.hid (hstep HW hb2); clear hb2))
  go_wp2_with fail
  refine bodyPost_ret (v := .agg #[.bool (sn (-na x)), .slice A11 (ln (ab (-na x))) (ln (ab (-na x))), .bool (sn (-nb x)), .slice A12 (ln (ab (-nb x))) (ln (ab (-nb x))), .slice A3 (ln (un x)) (ln (un x))]) (by simp [results, Try.results14, go_sem, r0, r1, r2, r3, r4, f0, f1, f2, f3, f4]) rfl ?_
  have e0 : un x.neg = un x := by unfold un; rw [E.out.2.2]
  have := retNum_fin (q := x.neg) (A1 := A11) (A2 := A12) (A3 := A3) HW ⟨by rw [E.out.1]; exact h1, by rw [E.out.2.1]; exact h2, by rw [e0]; exact hx3⟩ (by omega) r0
  rw [E.out.1, E.out.2.1, e0] at this
  exact this
set_option maxHeartbeats 4000000 in
theorem conj_any (x : Cx) (A1 A2 A3 : Option Addr) (w : World) (hx : Num3 w A1 A2 A3 x) :
    Calls Try.prog 12 #[.agg #[.bool (sn (na x)), .slice A1 (ln (ab (na x))) (ln (ab (na x))), .bool (sn (nb x)), .slice A2 (ln (ab (nb x))) (ln (ab (nb x))), .slice A3 (ln (un x)) (ln (un x))]] w (RetNum w x.conj) := by
  obtain ⟨hx1, hx2, hx3⟩ := hx
  obtain ⟨e1, e2, e3⟩ := conj_form x
  have E := Lib.hid (And.intro e1 (And.intro e2 e3))
  clear e1 e2 e3
  go_enter Try.func12, Try.ntmps12
  go_wp2_with fail
  obtain ⟨W, hW⟩ : ∃ W : World, W = ((w.alloc (.cells #[.bool (sn (na x)), .slice A1 (ln (ab (na x))) (ln (ab (na x))), .bool (sn (nb x)), .slice A2 (ln (ab (nb x))) (ln (ab (nb x))), .slice A3 (ln (un x)) (ln (un x))] 34)).alloc (.cells #[.bool false, .slice none 0 0, .bool false, .slice none 0 0, .slice none 0 0] 34)) := ⟨_, rfl⟩
  have s0_0 : W.cell? ⟨w.heap.size, 0, none⟩ = some (.bool (sn (na x))) := by subst hW; go_simp
  have s0_1 : W.cell? ⟨w.heap.size, 1, none⟩ = some (.slice A1 (ln (ab (na x))) (ln (ab (na x)))) := by subst hW; go_simp
  have s0_2 : W.cell? ⟨w.heap.size, 2, none⟩ = some (.bool (sn (nb x))) := by subst hW; go_simp
  have s0_3 : W.cell? ⟨w.heap.size, 3, none⟩ = some (.slice A2 (ln (ab (nb x))) (ln (ab (nb x)))) := by subst hW; go_simp
  have s0_4 : W.cell? ⟨w.heap.size, 4, none⟩ = some (.slice A3 (ln (un x)) (ln (un x))) := by subst hW; go_simp
  have r0 : W.cell? ⟨w.heap.size + 1, 0, none⟩ = some (.bool false) := by subst hW; go_simp
  have f0 : W.frozen? ⟨w.heap.size + 1, 0, none⟩ = false := by subst hW; go_simp
  have r1 : W.cell? ⟨w.heap.size + 1, 1, none⟩ = some (.slice none 0 0) := by subst hW; go_simp
  have f1 : W.frozen? ⟨w.heap.size + 1, 1, none⟩ = false := by subst hW; go_simp
  have r2 : W.cell? ⟨w.heap.size + 1, 2, none⟩ = some (.bool false) := by subst hW; go_simp
  have f2 : W.frozen? ⟨w.heap.size + 1, 2, none⟩ = false := by subst hW; go_simp
  have r3 : W.cell? ⟨w.heap.size + 1, 3, none⟩ = some (.slice none 0 0) := by subst hW; go_simp
  have f3 : W.frozen? ⟨w.heap.size + 1, 3, none⟩ = false := by subst hW; go_simp
  have r4 : W.cell? ⟨w.heap.size + 1, 4, none⟩ = some (.slice none 0 0) := by subst hW; go_simp
  have f4 : W.frozen? ⟨w.heap.size + 1, 4, none⟩ = false := by subst hW; go_simp
  have HW : Below w.heap.size w W := by subst hW; exact (((Below.refl w.heap.size w).alloc (Nat.le_refl _) _).alloc (by simp) _)
  have l0 : w.heap.size < W.heap.size := by subst hW; simp <;> omega
  have l1 : w.heap.size + 1 < W.heap.size := by subst hW; simp
  have n0 : w.heap.size ≠ w.heap.size + 1 := by omega
  replace hx1 := hx1.to HW
  replace hx2 := hx2.to HW
  replace hx3 := hx3.to HW
  rw [← hW]
  clear hW
  replace HW := Lib.hid HW
  go_region_held3 (fun w' => w'.cell? ⟨w.heap.size, 0, none⟩ = some (.bool (sn (na x))) ∧ w'.cell? ⟨w.heap.size, 1, none⟩ = some (.slice A1 (ln (ab (na x))) (ln (ab (na x)))) ∧ w'.cell? ⟨w.heap.size, 2, none⟩ = some (.bool (sn (nb x))) ∧ w'.cell? ⟨w.heap.size, 3, none⟩ = some (.slice A2 (ln (ab (nb x))) (ln (ab (nb x)))) ∧ w'.cell? ⟨w.heap.size, 4, none⟩ = some (.slice A3 (ln (un x)) (ln (un x)))) (first | with_reducible exact ⟨s0_0, s0_1, s0_2, s0_3, s0_4⟩ | with_reducible exact ⟨(keeps (keeps (keeps (keeps (keeps s0_0 n0) n0) n0) n0) n0), (keeps (keeps (keeps (keeps (keeps s0_1 n0) n0) n0) n0) n0), (keeps (keeps (keeps (keeps (keeps s0_2 n0) n0) n0) n0) n0), (keeps (keeps (keeps (keeps (keeps s0_3 n0) n0) n0) n0) n0), (keeps (keeps (keeps (keeps (keeps s0_4 n0) n0) n0) n0) n0)⟩ | exact ⟨s0_0, s0_1, s0_2, s0_3, s0_4⟩) (first
    | (go_at_call 34; refine (minus_any (nb x) A2 _ (by exact hx2)).mono ?_; rintro e w1 ⟨A12, rfl, h2, hb1⟩; have hb1 := undrew hb1; replace s0_0 := keepc hb1 s0_0 l0; replace s0_1 := keepc hb1 s0_1 l0; replace s0_2 := keepc hb1 s0_2 l0; replace s0_3 := keepc hb1 s0_3 l0; replace s0_4 := keepc hb1 s0_4 l0; replace r0 := keepc hb1 r0 l1; replace f0 := keepf hb1 f0 l1; replace r1 := keepc hb1 r1 l1; replace f1 := keepf hb1 f1 l1; replace r2 := keepc hb1 r2 l1; replace f2 := keepf hb1 f2 l1; replace r3 := keepc hb1 r3 l1; replace f3 := keepf hb1 f3 l1; replace r4 := keepc hb1 r4 l1; replace f4 := keepf hb1 f4 l1; replace l0 := Nat.lt_of_lt_of_le l0 hb1.size; replace l1 := Nat.lt_of_lt_of_le l1 hb1.size; replace hx1 := hx1.to hb1; replace hx2 := hx2.to hb1; replace hx3 := hx3.to hb1; replace HW := Lib.hid (hstep HW hb1); clear hb1))
  go_wp2_with fail
  refine bodyPost_ret (v := .agg #[.bool (sn (na x)), .slice A1 (ln (ab (na x))) (ln (ab (na x))), .bool (sn (-nb x)), .slice A12 (ln (ab (-nb x))) (ln (ab (-nb x))), .slice A3 (ln (un x)) (ln (un x))]) (by simp [results, Try.results12, go_sem, r0, r1, r2, r3, r4, f0, f1, f2, f3, f4]) rfl ?_
  have e0 : un x.conj = un x := by unfold un; rw [E.out.2.2]
  have := retNum_fin (q := x.conj) (A1 := A1) (A2 := A12) (A3 := A3) HW ⟨by rw [E.out.1]; exact hx1, by rw [E.out.2.1]; exact h2, by rw [e0]; exact hx3⟩ (by omega) r0
  rw [E.out.1, E.out.2.1, e0] at this
  exact this
end Go.Proofs.Ytdpjknjlhchmcaa

namespace Go.Proofs.Ytdpjknjlhchmcaa
open Go.RowKit Pl
set_option linter.unusedVariables false
set_option linter.unusedSimpArgs false
set_option maxHeartbeats 4000000 in
theorem add_num (x y : Cx) (A1 A2 A3 B1 B2 B3 : Option Addr) (w : World) (hx : Num3 w A1 A2 A3 x) (hy : Num3 w B1 B2 B3 y) (hsx : sz 137438953472 x) (hsy : sz 137438953472 y) :
    Calls Try.prog 22 #[.agg #[.bool (sn (na x)), .slice A1 (ln (ab (na x))) (ln (ab (na x))), .bool (sn (nb x)), .slice A2 (ln (ab (nb x))) (ln (ab (nb x))), .slice A3 (ln (un x)) (ln (un x))], .agg #[.bool (sn (na y)), .slice B1 (ln (ab (na y))) (ln (ab (na y))), .bool (sn (nb y)), .slice B2 (ln (ab (nb y))) (ln (ab (nb y))), .slice B3 (ln (un y)) (ln (un y))]] w (RetNum w (x.add y)) := by
  obtain ⟨hx1, hx2, hx3⟩ := hx
  obtain ⟨hy1, hy2, hy3⟩ := hy
  have HSX := Lib.hid hsx
  have HSY := Lib.hid hsy
  clear hsx hsy
  rw [← add_fr]
  go_enter Try.func22, Try.ntmps22
  go_wp2_with fail
  obtain ⟨W, hW⟩ : ∃ W : World, W = (((w.alloc (.cells #[.bool (sn (na x)), .slice A1 (ln (ab (na x))) (ln (ab (na x))), .bool (sn (nb x)), .slice A2 (ln (ab (nb x))) (ln (ab (nb x))), .slice A3 (ln (un x)) (ln (un x))] 34)).alloc (.cells #[.bool (sn (na y)), .slice B1 (ln (ab (na y))) (ln (ab (na y))), .bool (sn (nb y)), .slice B2 (ln (ab (nb y))) (ln (ab (nb y))), .slice B3 (ln (un y)) (ln (un y))] 34)).alloc (.cells #[.bool false, .slice none 0 0, .bool false, .slice none 0 0, .slice none 0 0] 34)) := ⟨_, rfl⟩
  have s0_0 : W.cell? ⟨w.heap.size, 0, none⟩ = some (.bool (sn (na x))) := by subst hW; go_simp
  have s0_1 : W.cell? ⟨w.heap.size, 1, none⟩ = some (.slice A1 (ln (ab (na x))) (ln (ab (na x)))) := by subst hW; go_simp
  have s0_2 : W.cell? ⟨w.heap.size, 2, none⟩ = some (.bool (sn (nb x))) := by subst hW; go_simp
  have s0_3 : W.cell? ⟨w.heap.size, 3, none⟩ = some (.slice A2 (ln (ab (nb x))) (ln (ab (nb x)))) := by subst hW; go_simp
  have s0_4 : W.cell? ⟨w.heap.size, 4, none⟩ = some (.slice A3 (ln (un x)) (ln (un x))) := by subst hW; go_simp
  have s1_0 : W.cell? ⟨w.heap.size + 1, 0, none⟩ = some (.bool (sn (na y))) := by subst hW; go_simp
  have s1_1 : W.cell? ⟨w.heap.size + 1, 1, none⟩ = some (.slice B1 (ln (ab (na y))) (ln (ab (na y)))) := by subst hW; go_simp
  have s1_2 : W.cell? ⟨w.heap.size + 1, 2, none⟩ = some (.bool (sn (nb y))) := by subst hW; go_simp
  have s1_3 : W.cell? ⟨w.heap.size + 1, 3, none⟩ = some (.slice B2 (ln (ab (nb y))) (ln (ab (nb y)))) := by subst hW; go_simp
  have s1_4 : W.cell? ⟨w.heap.size + 1, 4, none⟩ = some (.slice B3 (ln (un y)) (ln (un y))) := by subst hW; go_simp
  have r0 : W.cell? ⟨w.heap.size + 1 + 1, 0, none⟩ = some (.bool false) := by subst hW; go_simp
  have f0 : W.frozen? ⟨w.heap.size + 1 + 1, 0, none⟩ = false := by subst hW; go_simp
  have r1 : W.cell? ⟨w.heap.size + 1 + 1, 1, none⟩ = some (.slice none 0 0) := by subst hW; go_simp
  have f1 : W.frozen? ⟨w.heap.size + 1 + 1, 1, none⟩ = false := by subst hW; go_simp
  have r2 : W.cell? ⟨w.heap.size + 1 + 1, 2, none⟩ = some (.bool false) := by subst hW; go_simp
  have f2 : W.frozen? ⟨w.heap.size + 1 + 1, 2, none⟩ = false := by subst hW; go_simp
  have r3 : W.cell? ⟨w.heap.size + 1 + 1, 3, none⟩ = some (.slice none 0 0) := by subst hW; go_simp
  have f3 : W.frozen? ⟨w.heap.size + 1 + 1, 3, none⟩ = false := by subst hW; go_simp
  have r4 : W.cell? ⟨w.heap.size + 1 + 1, 4, none⟩ = some (.slice none 0 0) := by subst hW; go_simp
  have f4 : W.frozen? ⟨w.heap.size + 1 + 1, 4, none⟩ = false := by subst hW; go_simp
  have HW : Below w.heap.size w W := by subst hW; exact ((((Below.refl w.heap.size w).alloc (Nat.le_refl _) _).alloc (by simp) _).alloc (by simp; omega) _)
  have l0 : w.heap.size < W.heap.size := by subst hW; simp <;> omega
  have l1 : w.heap.size + 1 < W.heap.size := by subst hW; simp <;> omega
  have l2 : w.heap.size + 1 + 1 < W.heap.size := by subst hW; simp
  have n0 : w.heap.size ≠ w.heap.size + 1 + 1 := by omega
  have n1 : w.heap.size + 1 ≠ w.heap.size + 1 + 1 := by omega
  replace hx1 := hx1.to HW
  replace hx2 := hx2.to HW
  replace hx3 := hx3.to HW
  replace hy1 := hy1.to HW
  replace hy2 := hy2.to HW
  replace hy3 := hy3.to HW
  rw [← hW]
  clear hW
  replace HW := Lib.hid HW
  go_region_held3 (fun w' => w'.cell? ⟨w.heap.size, 0, none⟩ = some (.bool (sn (na x))) ∧ w'.cell? ⟨w.heap.size, 1, none⟩ = some (.slice A1 (ln (ab (na x))) (ln (ab (na x)))) ∧ w'.cell? ⟨w.heap.size, 2, none⟩ = some (.bool (sn (nb x))) ∧ w'.cell? ⟨w.heap.size, 3, none⟩ = some (.slice A2 (ln (ab (nb x))) (ln (ab (nb x)))) ∧ w'.cell? ⟨w.heap.size, 4, none⟩ = some (.slice A3 (ln (un x)) (ln (un x))) ∧ w'.cell? ⟨w.heap.size + 1, 0, none⟩ = some (.bool (sn (na y))) ∧ w'.cell? ⟨w.heap.size + 1, 1, none⟩ = some (.slice B1 (ln (ab (na y))) (ln (ab (na y)))) ∧ w'.cell? ⟨w.heap.size + 1, 2, none⟩ = some (.bool (sn (nb y))) ∧ w'.cell? ⟨w.heap.size + 1, 3, none⟩ = some (.slice B2 (ln (ab (nb y))) (ln (ab (nb y)))) ∧ w'.cell? ⟨w.heap.size + 1, 4, none⟩ = some (.slice B3 (ln (un y)) (ln (un y)))) (first | with_reducible exact ⟨s0_0, s0_1, s0_2, s0_3, s0_4, s1_0, s1_1, s1_2, s1_3, s1_4⟩ | with_reducible exact ⟨s0_0, s0_1, s0_2, s0_3, s0_4, s1_0, s1_1, s1_2, s1_3, s1_4⟩ | exact ⟨s0_0, s0_1, s0_2, s0_3, s0_4, s1_0, s1_1, s1_2, s1_3, s1_4⟩) (first
    | (go_at_call_of 36 (Value.agg #[.bool (sn (na x)), .slice A1 (ln (ab (na x))) (ln (ab (na x))), .bool (sn (nb x)), .slice A2 (ln (ab (nb x))) (ln (ab (nb x))), .slice A3 (ln (un x)) (ln (un x))]); refine (den_any x A1 A2 A3 _ (by exact num3_mk hx1 hx2 hx3)).mono ?_; rintro e w1 ⟨D1, rfl, h1, hb1⟩; have hb1 := undrew hb1; replace s0_0 := keepc hb1 s0_0 l0; replace s0_1 := keepc hb1 s0_1 l0; replace s0_2 := keepc hb1 s0_2 l0; replace s0_3 := keepc hb1 s0_3 l0; replace s0_4 := keepc hb1 s0_4 l0; replace s1_0 := keepc hb1 s1_0 l1; replace s1_1 := keepc hb1 s1_1 l1; replace s1_2 := keepc hb1 s1_2 l1; replace s1_3 := keepc hb1 s1_3 l1; replace s1_4 := keepc hb1 s1_4 l1; replace r0 := keepc hb1 r0 l2; replace f0 := keepf hb1 f0 l2; replace r1 := keepc hb1 r1 l2; replace f1 := keepf hb1 f1 l2; replace r2 := keepc hb1 r2 l2; replace f2 := keepf hb1 f2 l2; replace r3 := keepc hb1 r3 l2; replace f3 := keepf hb1 f3 l2; replace r4 := keepc hb1 r4 l2; replace f4 := keepf hb1 f4 l2; replace l0 := Nat.lt_of_lt_of_le l0 hb1.size; replace l1 := Nat.lt_of_lt_of_le l1 hb1.size; replace l2 := Nat.lt_of_lt_of_le l2 hb1.size; replace hx1 := hx1.to hb1; replace hx2 := hx2.to hb1; replace hx3 := hx3.to hb1; replace hy1 := hy1.to hb1; replace hy2 := hy2.to hb1; replace hy3 := hy3.to hb1; replace HW := Lib.hid (hstep HW hb1); clear hb1)
    | (go_at_call_of 36 (Value.agg #[.bool (sn (na y)), .slice B1 (ln (ab (na y))) (ln (ab (na y))), .bool (sn (nb y)), .slice B2 (ln (ab (nb y))) (ln (ab (nb y))), .slice B3 (ln (un y)) (ln (un y))]); refine (den_any y B1 B2 B3 _ (by exact num3_mk hy1 hy2 hy3)).mono ?_; rintro e w2 ⟨D2, rfl, h2, hb2⟩; replace s0_0 := keepc hb2 s0_0 l0; replace s0_1 := keepc hb2 s0_1 l0; replace s0_2 := keepc hb2 s0_2 l0; replace s0_3 := keepc hb2 s0_3 l0; replace s0_4 := keepc hb2 s0_4 l0; replace s1_0 := keepc hb2 s1_0 l1; replace s1_1 := keepc hb2 s1_1 l1; replace s1_2 := keepc hb2 s1_2 l1; replace s1_3 := keepc hb2 s1_3 l1; replace s1_4 := keepc hb2 s1_4 l1; replace r0 := keepc hb2 r0 l2; replace f0 := keepf hb2 f0 l2; replace r1 := keepc hb2 r1 l2; replace f1 := keepf hb2 f1 l2; replace r2 := keepc hb2 r2 l2; replace f2 := keepf hb2 f2 l2; replace r3 := keepc hb2 r3 l2; replace f3 := keepf hb2 f3 l2; replace r4 := keepc hb2 r4 l2; replace f4 := keepf hb2 f4 l2; replace l0 := Nat.lt_of_lt_of_le l0 hb2.size; replace l1 := Nat.lt_of_lt_of_le l1 hb2.size; replace l2 := Nat.lt_of_lt_of_le l2 hb2.size; replace hx1 := hx1.to hb2; replace hx2 := hx2.to hb2; replace hx3 := hx3.to hb2; replace hy1 := hy1.to hb2; replace hy2 := hy2.to hb2; replace hy3 := hy3.to hb2; replace h1 := h1.to hb2; replace HW := Lib.hid (hstep HW hb2); clear hb2))
  go_wp2_with fail
  go_region_held3 (fun w' => w'.cell? ⟨w.heap.size, 0, none⟩ = some (.bool (sn (na x))) ∧ w'.cell? ⟨w.heap.size, 1, none⟩ = some (.slice A1 (ln (ab (na x))) (ln (ab (na x)))) ∧ w'.cell? ⟨w.heap.size, 2, none⟩ = some (.bool (sn (nb x))) ∧ w'.cell? ⟨w.heap.size, 3, none⟩ = some (.slice A2 (ln (ab (nb x))) (ln (ab (nb x)))) ∧ w'.cell? ⟨w.heap.size + 1, 0, none⟩ = some (.bool (sn (na y))) ∧ w'.cell? ⟨w.heap.size + 1, 1, none⟩ = some (.slice B1 (ln (ab (na y))) (ln (ab (na y)))) ∧ w'.cell? ⟨w.heap.size + 1, 2, none⟩ = some (.bool (sn (nb y))) ∧ w'.cell? ⟨w.heap.size + 1, 3, none⟩ = some (.slice B2 (ln (ab (nb y))) (ln (ab (nb y))))) (first | with_reducible exact ⟨s0_0, s0_1, s0_2, s0_3, s1_0, s1_1, s1_2, s1_3⟩ | with_reducible exact ⟨(keeps (keeps (keeps (keeps (keeps s0_0 n0) n0) n0) n0) n0), (keeps (keeps (keeps (keeps (keeps s0_1 n0) n0) n0) n0) n0), (keeps (keeps (keeps (keeps (keeps s0_2 n0) n0) n0) n0) n0), (keeps (keeps (keeps (keeps (keeps s0_3 n0) n0) n0) n0) n0), (keeps (keeps (keeps (keeps (keeps s1_0 n1) n1) n1) n1) n1), (keeps (keeps (keeps (keeps (keeps s1_1 n1) n1) n1) n1) n1), (keeps (keeps (keeps (keeps (keeps s1_2 n1) n1) n1) n1) n1), (keeps (keeps (keeps (keeps (keeps s1_3 n1) n1) n1) n1) n1)⟩ | exact ⟨s0_0, s0_1, s0_2, s0_3, s1_0, s1_1, s1_2, s1_3⟩) (first
    | (go_at_call_of 49 (Value.slice A1 (ln (ab (na x))) (ln (ab (na x)))); refine (scaled_any (na x) (nd y) A1 D2 _ (by exact hx1) (by exact h2) (by have := HSX.out; unfold sz at this; omega) (by have := HSY.out; unfold sz at this; omega)).mono ?_; rintro e w3 ⟨S3, rfl, h3, hb3⟩; have hb3 := undrew hb3; replace s0_0 := keepc hb3 s0_0 l0; replace s0_1 := keepc hb3 s0_1 l0; replace s0_2 := keepc hb3 s0_2 l0; replace s0_3 := keepc hb3 s0_3 l0; replace s0_4 := keepc hb3 s0_4 l0; replace s1_0 := keepc hb3 s1_0 l1; replace s1_1 := keepc hb3 s1_1 l1; replace s1_2 := keepc hb3 s1_2 l1; replace s1_3 := keepc hb3 s1_3 l1; replace s1_4 := keepc hb3 s1_4 l1; replace r0 := keepc hb3 r0 l2; replace f0 := keepf hb3 f0 l2; replace r1 := keepc hb3 r1 l2; replace f1 := keepf hb3 f1 l2; replace r2 := keepc hb3 r2 l2; replace f2 := keepf hb3 f2 l2; replace r3 := keepc hb3 r3 l2; replace f3 := keepf hb3 f3 l2; replace r4 := keepc hb3 r4 l2; replace f4 := keepf hb3 f4 l2; replace l0 := Nat.lt_of_lt_of_le l0 hb3.size; replace l1 := Nat.lt_of_lt_of_le l1 hb3.size; replace l2 := Nat.lt_of_lt_of_le l2 hb3.size; replace hx1 := hx1.to hb3; replace hx2 := hx2.to hb3; replace hx3 := hx3.to hb3; replace hy1 := hy1.to hb3; replace hy2 := hy2.to hb3; replace hy3 := hy3.to hb3; replace h1 := h1.to hb3; replace h2 := h2.to hb3; replace HW := Lib.hid (hstep HW hb3); clear hb3)
    | (go_at_call_of 49 (Value.slice B1 (ln (ab (na y))) (ln (ab (na y)))); refine (scaled_any (na y) (nd x) B1 D1 _ (by exact hy1) (by exact h1) (by have := HSY.out; unfold sz at this; omega) (by have := HSX.out; unfold sz at this; omega)).mono ?_; rintro e w4 ⟨S4, rfl, h4, hb4⟩; replace s0_0 := keepc hb4 s0_0 l0; replace s0_1 := keepc hb4 s0_1 l0; replace s0_2 := keepc hb4 s0_2 l0; replace s0_3 := keepc hb4 s0_3 l0; replace s0_4 := keepc hb4 s0_4 l0; replace s1_0 := keepc hb4 s1_0 l1; replace s1_1 := keepc hb4 s1_1 l1; replace s1_2 := keepc hb4 s1_2 l1; replace s1_3 := keepc hb4 s1_3 l1; replace s1_4 := keepc hb4 s1_4 l1; replace r0 := keepc hb4 r0 l2; replace f0 := keepf hb4 f0 l2; replace r1 := keepc hb4 r1 l2; replace f1 := keepf hb4 f1 l2; replace r2 := keepc hb4 r2 l2; replace f2 := keepf hb4 f2 l2; replace r3 := keepc hb4 r3 l2; replace f3 := keepf hb4 f3 l2; replace r4 := keepc hb4 r4 l2; replace f4 := keepf hb4 f4 l2; replace l0 := Nat.lt_of_lt_of_le l0 hb4.size; replace l1 := Nat.lt_of_lt_of_le l1 hb4.size; replace l2 := Nat.lt_of_lt_of_le l2 hb4.size; replace hx1 := hx1.to hb4; replace hx2 := hx2.to hb4; replace hx3 := hx3.to hb4; replace hy1 := hy1.to hb4; replace hy2 := hy2.to hb4; replace hy3 := hy3.to hb4; replace h1 := h1.to hb4; replace h2 := h2.to hb4; replace h3 := h3.to hb4; replace HW := Lib.hid (hstep HW hb4); clear hb4)
    | (go_at_call_of 33 (Value.slice S3 (ln (ab (na x * (nd y : Int)))) (ln (ab (na x * (nd y : Int))))); refine (plus_any (na x * (nd y : Int)) (na y * (nd x : Int)) S3 S4 _ (by exact h3) (by exact h4) (by have h := (ab_mul_ln HSX.out.1 (ab_nat_ln HSY.out.2.2)); have h3 := HSX.out; have h4 := HSY.out; unfold sz at h3 h4; omega) (by have h := (ab_mul_ln HSY.out.1 (ab_nat_ln HSX.out.2.2)); have h3 := HSX.out; have h4 := HSY.out; unfold sz at h3 h4; omega)).mono ?_; rintro e w5 ⟨S5, rfl, h5, hb5⟩; replace s0_0 := keepc hb5 s0_0 l0; replace s0_1 := keepc hb5 s0_1 l0; replace s0_2 := keepc hb5 s0_2 l0; replace s0_3 := keepc hb5 s0_3 l0; replace s0_4 := keepc hb5 s0_4 l0; replace s1_0 := keepc hb5 s1_0 l1; replace s1_1 := keepc hb5 s1_1 l1; replace s1_2 := keepc hb5 s1_2 l1; replace s1_3 := keepc hb5 s1_3 l1; replace s1_4 := keepc hb5 s1_4 l1; replace r0 := keepc hb5 r0 l2; replace f0 := keepf hb5 f0 l2; replace r1 := keepc hb5 r1 l2; replace f1 := keepf hb5 f1 l2; replace r2 := keepc hb5 r2 l2; replace f2 := keepf hb5 f2 l2; replace r3 := keepc hb5 r3 l2; replace f3 := keepf hb5 f3 l2; replace r4 := keepc hb5 r4 l2; replace f4 := keepf hb5 f4 l2; replace l0 := Nat.lt_of_lt_of_le l0 hb5.size; replace l1 := Nat.lt_of_lt_of_le l1 hb5.size; replace l2 := Nat.lt_of_lt_of_le l2 hb5.size; replace hx1 := hx1.to hb5; replace hx2 := hx2.to hb5; replace hx3 := hx3.to hb5; replace hy1 := hy1.to hb5; replace hy2 := hy2.to hb5; replace hy3 := hy3.to hb5; replace h1 := h1.to hb5; replace h2 := h2.to hb5; replace h3 := h3.to hb5; replace h4 := h4.to hb5; replace HW := Lib.hid (hstep HW hb5); clear hb5)
    | (go_at_call_of 49 (Value.slice A2 (ln (ab (nb x))) (ln (ab (nb x)))); refine (scaled_any (nb x) (nd y) A2 D2 _ (by exact hx2) (by exact h2) (by have := HSX.out; unfold sz at this; omega) (by have := HSY.out; unfold sz at this; omega)).mono ?_; rintro e w6 ⟨S6, rfl, h6, hb6⟩; replace s0_0 := keepc hb6 s0_0 l0; replace s0_1 := keepc hb6 s0_1 l0; replace s0_2 := keepc hb6 s0_2 l0; replace s0_3 := keepc hb6 s0_3 l0; replace s0_4 := keepc hb6 s0_4 l0; replace s1_0 := keepc hb6 s1_0 l1; replace s1_1 := keepc hb6 s1_1 l1; replace s1_2 := keepc hb6 s1_2 l1; replace s1_3 := keepc hb6 s1_3 l1; replace s1_4 := keepc hb6 s1_4 l1; replace r0 := keepc hb6 r0 l2; replace f0 := keepf hb6 f0 l2; replace r1 := keepc hb6 r1 l2; replace f1 := keepf hb6 f1 l2; replace r2 := keepc hb6 r2 l2; replace f2 := keepf hb6 f2 l2; replace r3 := keepc hb6 r3 l2; replace f3 := keepf hb6 f3 l2; replace r4 := keepc hb6 r4 l2; replace f4 := keepf hb6 f4 l2; replace l0 := Nat.lt_of_lt_of_le l0 hb6.size; replace l1 := Nat.lt_of_lt_of_le l1 hb6.size; replace l2 := Nat.lt_of_lt_of_le l2 hb6.size; replace hx1 := hx1.to hb6; replace hx2 := hx2.to hb6; replace hx3 := hx3.to hb6; replace hy1 := hy1.to hb6; replace hy2 := hy2.to hb6; replace hy3 := hy3.to hb6; replace h1 := h1.to hb6; replace h2 := h2.to hb6; replace h3 := h3.to hb6; replace h4 := h4.to hb6; replace h5 := h5.to hb6; replace HW := Lib.hid (hstep HW hb6); clear hb6)
    | (go_at_call_of 49 (Value.slice B2 (ln (ab (nb y))) (ln (ab (nb y)))); refine (scaled_any (nb y) (nd x) B2 D1 _ (by exact hy2) (by exact h1) (by have := HSY.out; unfold sz at this; omega) (by have := HSX.out; unfold sz at this; omega)).mono ?_; rintro e w7 ⟨S7, rfl, h7, hb7⟩; replace s0_0 := keepc hb7 s0_0 l0; replace s0_1 := keepc hb7 s0_1 l0; replace s0_2 := keepc hb7 s0_2 l0; replace s0_3 := keepc hb7 s0_3 l0; replace s0_4 := keepc hb7 s0_4 l0; replace s1_0 := keepc hb7 s1_0 l1; replace s1_1 := keepc hb7 s1_1 l1; replace s1_2 := keepc hb7 s1_2 l1; replace s1_3 := keepc hb7 s1_3 l1; replace s1_4 := keepc hb7 s1_4 l1; replace r0 := keepc hb7 r0 l2; replace f0 := keepf hb7 f0 l2; replace r1 := keepc hb7 r1 l2; replace f1 := keepf hb7 f1 l2; replace r2 := keepc hb7 r2 l2; replace f2 := keepf hb7 f2 l2; replace r3 := keepc hb7 r3 l2; replace f3 := keepf hb7 f3 l2; replace r4 := keepc hb7 r4 l2; replace f4 := keepf hb7 f4 l2; replace l0 := Nat.lt_of_lt_of_le l0 hb7.size; replace l1 := Nat.lt_of_lt_of_le l1 hb7.size; replace l2 := Nat.lt_of_lt_of_le l2 hb7.size; replace hx1 := hx1.to hb7; replace hx2 := hx2.to hb7; replace hx3 := hx3.to hb7; replace hy1 := hy1.to hb7; replace hy2 := hy2.to hb7; replace hy3 := hy3.to hb7; replace h1 := h1.to hb7; replace h2 := h2.to hb7; replace h3 := h3.to hb7; replace h4 := h4.to hb7; replace h5 := h5.to hb7; replace h6 := h6.to hb7; replace HW := Lib.hid (hstep HW hb7); clear hb7)
    | (go_at_call_of 33 (Value.slice S6 (ln (ab (nb x * (nd y : Int)))) (ln (ab (nb x * (nd y : Int))))); refine (plus_any (nb x * (nd y : Int)) (nb y * (nd x : Int)) S6 S7 _ (by exact h6) (by exact h7) (by have h := (ab_mul_ln HSX.out.2.1 (ab_nat_ln HSY.out.2.2)); have h3 := HSX.out; have h4 := HSY.out; unfold sz at h3 h4; omega) (by have h := (ab_mul_ln HSY.out.2.1 (ab_nat_ln HSX.out.2.2)); have h3 := HSX.out; have h4 := HSY.out; unfold sz at h3 h4; omega)).mono ?_; rintro e w8 ⟨S8, rfl, h8, hb8⟩; replace s0_0 := keepc hb8 s0_0 l0; replace s0_1 := keepc hb8 s0_1 l0; replace s0_2 := keepc hb8 s0_2 l0; replace s0_3 := keepc hb8 s0_3 l0; replace s0_4 := keepc hb8 s0_4 l0; replace s1_0 := keepc hb8 s1_0 l1; replace s1_1 := keepc hb8 s1_1 l1; replace s1_2 := keepc hb8 s1_2 l1; replace s1_3 := keepc hb8 s1_3 l1; replace s1_4 := keepc hb8 s1_4 l1; replace r0 := keepc hb8 r0 l2; replace f0 := keepf hb8 f0 l2; replace r1 := keepc hb8 r1 l2; replace f1 := keepf hb8 f1 l2; replace r2 := keepc hb8 r2 l2; replace f2 := keepf hb8 f2 l2; replace r3 := keepc hb8 r3 l2; replace f3 := keepf hb8 f3 l2; replace r4 := keepc hb8 r4 l2; replace f4 := keepf hb8 f4 l2; replace l0 := Nat.lt_of_lt_of_le l0 hb8.size; replace l1 := Nat.lt_of_lt_of_le l1 hb8.size; replace l2 := Nat.lt_of_lt_of_le l2 hb8.size; replace hx1 := hx1.to hb8; replace hx2 := hx2.to hb8; replace hx3 := hx3.to hb8; replace hy1 := hy1.to hb8; replace hy2 := hy2.to hb8; replace hy3 := hy3.to hb8; replace h1 := h1.to hb8; replace h2 := h2.to hb8; replace h3 := h3.to hb8; replace h4 := h4.to hb8; replace h5 := h5.to hb8; replace h6 := h6.to hb8; replace h7 := h7.to hb8; replace HW := Lib.hid (hstep HW hb8); clear hb8)
    | (go_at_call 37; refine (mul_any (nd x) (nd y) D1 D2 _ (by exact h1) (by exact h2) (by have := HSX.out; unfold sz at this; omega) (by have := HSY.out; unfold sz at this; omega)).mono ?_; rintro e w9 ⟨S9, rfl, h9, hb9⟩; replace s0_0 := keepc hb9 s0_0 l0; replace s0_1 := keepc hb9 s0_1 l0; replace s0_2 := keepc hb9 s0_2 l0; replace s0_3 := keepc hb9 s0_3 l0; replace s0_4 := keepc hb9 s0_4 l0; replace s1_0 := keepc hb9 s1_0 l1; replace s1_1 := keepc hb9 s1_1 l1; replace s1_2 := keepc hb9 s1_2 l1; replace s1_3 := keepc hb9 s1_3 l1; replace s1_4 := keepc hb9 s1_4 l1; replace r0 := keepc hb9 r0 l2; replace f0 := keepf hb9 f0 l2; replace r1 := keepc hb9 r1 l2; replace f1 := keepf hb9 f1 l2; replace r2 := keepc hb9 r2 l2; replace f2 := keepf hb9 f2 l2; replace r3 := keepc hb9 r3 l2; replace f3 := keepf hb9 f3 l2; replace r4 := keepc hb9 r4 l2; replace f4 := keepf hb9 f4 l2; replace l0 := Nat.lt_of_lt_of_le l0 hb9.size; replace l1 := Nat.lt_of_lt_of_le l1 hb9.size; replace l2 := Nat.lt_of_lt_of_le l2 hb9.size; replace hx1 := hx1.to hb9; replace hx2 := hx2.to hb9; replace hx3 := hx3.to hb9; replace hy1 := hy1.to hb9; replace hy2 := hy2.to hb9; replace hy3 := hy3.to hb9; replace h1 := h1.to hb9; replace h2 := h2.to hb9; replace h3 := h3.to hb9; replace h4 := h4.to hb9; replace h5 := h5.to hb9; replace h6 := h6.to hb9; replace h7 := h7.to hb9; replace h8 := h8.to hb9; replace HW := Lib.hid (hstep HW hb9); clear hb9)
    | (go_at_call 35; refine (over_any (na x * (nd y : Int) + na y * (nd x : Int)) (nb x * (nd y : Int) + nb y * (nd x : Int)) (nd x * nd y) S5 S8 S9 _ (by exact h5) (by exact h8) (by exact h9) (by have h := (ab_add_ln (K := 274877906944) (Nat.le_trans (ab_mul_ln HSX.out.1 (ab_nat_ln HSY.out.2.2)) (by omega)) (Nat.le_trans (ab_mul_ln HSY.out.1 (ab_nat_ln HSX.out.2.2)) (by omega))); have h3 := HSX.out; have h4 := HSY.out; unfold sz at h3 h4; omega) (by have h := (ab_add_ln (K := 274877906944) (Nat.le_trans (ab_mul_ln HSX.out.2.1 (ab_nat_ln HSY.out.2.2)) (by omega)) (Nat.le_trans (ab_mul_ln HSY.out.2.1 (ab_nat_ln HSX.out.2.2)) (by omega))); have h3 := HSX.out; have h4 := HSY.out; unfold sz at h3 h4; omega) (by have h := (nat_mul_ln HSX.out.2.2 HSY.out.2.2); have h3 := HSX.out; have h4 := HSY.out; unfold sz at h3 h4; omega) (Nat.mul_ne_zero (nd_ne0 x) (nd_ne0 y))).mono ?_; rintro e w10 ⟨Z1, Z2, Z3, rfl, h10, hb10⟩; replace s0_0 := keepc hb10 s0_0 l0; replace s0_1 := keepc hb10 s0_1 l0; replace s0_2 := keepc hb10 s0_2 l0; replace s0_3 := keepc hb10 s0_3 l0; replace s0_4 := keepc hb10 s0_4 l0; replace s1_0 := keepc hb10 s1_0 l1; replace s1_1 := keepc hb10 s1_1 l1; replace s1_2 := keepc hb10 s1_2 l1; replace s1_3 := keepc hb10 s1_3 l1; replace s1_4 := keepc hb10 s1_4 l1; replace r0 := keepc hb10 r0 l2; replace f0 := keepf hb10 f0 l2; replace r1 := keepc hb10 r1 l2; replace f1 := keepf hb10 f1 l2; replace r2 := keepc hb10 r2 l2; replace f2 := keepf hb10 f2 l2; replace r3 := keepc hb10 r3 l2; replace f3 := keepf hb10 f3 l2; replace r4 := keepc hb10 r4 l2; replace f4 := keepf hb10 f4 l2; replace l0 := Nat.lt_of_lt_of_le l0 hb10.size; replace l1 := Nat.lt_of_lt_of_le l1 hb10.size; replace l2 := Nat.lt_of_lt_of_le l2 hb10.size; replace hx1 := hx1.to hb10; replace hx2 := hx2.to hb10; replace hx3 := hx3.to hb10; replace hy1 := hy1.to hb10; replace hy2 := hy2.to hb10; replace hy3 := hy3.to hb10; replace h1 := h1.to hb10; replace h2 := h2.to hb10; replace h3 := h3.to hb10; replace h4 := h4.to hb10; replace h5 := h5.to hb10; replace h6 := h6.to hb10; replace h7 := h7.to hb10; replace h8 := h8.to hb10; replace h9 := h9.to hb10; replace HW := Lib.hid (hstep HW hb10); clear hb10))
  go_wp2_with fail
  exact bodyPost_ret (v := .agg #[.bool (sn (na (fr (na x * (nd y : Int) + na y * (nd x : Int)) (nb x * (nd y : Int) + nb y * (nd x : Int)) (nd x * nd y)))), .slice Z1 (ln (ab (na (fr (na x * (nd y : Int) + na y * (nd x : Int)) (nb x * (nd y : Int) + nb y * (nd x : Int)) (nd x * nd y))))) (ln (ab (na (fr (na x * (nd y : Int) + na y * (nd x : Int)) (nb x * (nd y : Int) + nb y * (nd x : Int)) (nd x * nd y))))), .bool (sn (nb (fr (na x * (nd y : Int) + na y * (nd x : Int)) (nb x * (nd y : Int) + nb y * (nd x : Int)) (nd x * nd y)))), .slice Z2 (ln (ab (nb (fr (na x * (nd y : Int) + na y * (nd x : Int)) (nb x * (nd y : Int) + nb y * (nd x : Int)) (nd x * nd y))))) (ln (ab (nb (fr (na x * (nd y : Int) + na y * (nd x : Int)) (nb x * (nd y : Int) + nb y * (nd x : Int)) (nd x * nd y))))), .slice Z3 (ln (un (fr (na x * (nd y : Int) + na y * (nd x : Int)) (nb x * (nd y : Int) + nb y * (nd x : Int)) (nd x * nd y)))) (ln (un (fr (na x * (nd y : Int) + na y * (nd x : Int)) (nb x * (nd y : Int) + nb y * (nd x : Int)) (nd x * nd y))))]) (by simp [results, Try.results22, go_sem, r0, r1, r2, r3, r4, f0, f1, f2, f3, f4]) rfl (retNum_fin HW h10 (by omega) r0)
end Go.Proofs.Ytdpjknjlhchmcaa

namespace Go.Proofs.Ytdpjknjlhchmcaa
open Go.RowKit Pl
set_option linter.unusedVariables false
set_option linter.unusedSimpArgs false
/-- A local variable that holds an integer. -/
def VarWhole (W : World) (z : Int) (p : Value) (wx : World) : Prop := ∃ g A, p = .pointer (some ⟨g, 0, none⟩) ∧ wx.cell? ⟨g, 0, none⟩ = some (.bool (sn z)) ∧ wx.cell? ⟨g, 1, none⟩ = some (.slice A (ln (ab z)) (ln (ab z))) ∧ wx.frozen? ⟨g, 0, none⟩ = false ∧ wx.frozen? ⟨g, 1, none⟩ = false ∧ Nat32 wx A (ab z) ∧ W.heap.size ≤ g ∧ g < wx.heap.size ∧ Below W.heap.size W wx
theorem unalloc {V w1 : World} {o : Obj} (h : Below (V.alloc o).heap.size (V.alloc o) w1) : Below V.heap.size V w1 := ((Below.refl _ _).alloc (Nat.le_refl _) o).trans (h.mono (by simp))
theorem undrewalloc {V w1 : World} {o : Obj} (h : Below (V.alloc o).drew.heap.size (V.alloc o).drew w1) : Below V.heap.size V w1 := unalloc (undrew h)
theorem keepa {w : World} {b i : Nat} {v : Value} {o : Obj} (h : w.cell? ⟨b, i, none⟩ = some v) (hlt : b < w.heap.size) : (w.alloc o).cell? ⟨b, i, none⟩ = some v := (World.cell?_alloc_lt w o _ hlt).trans h
/-- The variable that was made in the world V, behind a call. -/
def NewVar (V w1 : World) : Prop := w1.cell? ⟨V.heap.size, 0, none⟩ = some (.bool false) ∧ w1.cell? ⟨V.heap.size, 1, none⟩ = some (.slice none 0 0) ∧ w1.frozen? ⟨V.heap.size, 0, none⟩ = false ∧ w1.frozen? ⟨V.heap.size, 1, none⟩ = false ∧ V.heap.size < w1.heap.size
theorem newvar {V w1 : World} {T : TypeId} (h : Below (V.alloc (.cells #[.bool false, .slice none 0 0] T)).heap.size (V.alloc (.cells #[.bool false, .slice none 0 0] T)) w1) : NewVar V w1 :=
  ⟨keepc h (by go_simp) (by simp), keepc h (by go_simp) (by simp), keepf h (by go_simp) (by simp), keepf h (by go_simp) (by simp), by have := h.size; simp at this; omega⟩
theorem newvard {V w1 : World} {T : TypeId} (h : Below (V.alloc (.cells #[.bool false, .slice none 0 0] T)).drew.heap.size (V.alloc (.cells #[.bool false, .slice none 0 0] T)).drew w1) : NewVar V w1 := newvar (undrew h)
theorem newvare {V w1 : World} {T : TypeId} (h : Below (V.drew.alloc (.cells #[.bool false, .slice none 0 0] T)).heap.size (V.drew.alloc (.cells #[.bool false, .slice none 0 0] T)) w1) : NewVar V w1 := newvar (V := V.drew) h
theorem varWhole_set {W wn : World} {z : Int} {g : Nat} {A : Option Addr} {c : Bool} {v : Value} (K : Below W.heap.size W wn) (a0 : wn.cell? ⟨g, 0, none⟩ = some (.bool c)) (a1 : wn.cell? ⟨g, 1, none⟩ = some v) (f0 : wn.frozen? ⟨g, 0, none⟩ = false) (f1 : wn.frozen? ⟨g, 1, none⟩ = false)
    (h : Nat32 wn A (ab z)) (hg : W.heap.size ≤ g) (hl : g < wn.heap.size) : VarWhole W z (.pointer (some ⟨g, 0, none⟩)) ((wn.setCell ⟨g, 0, none⟩ (.bool (sn z))).setCell ⟨g, 1, none⟩ (.slice A (ln (ab z)) (ln (ab z)))) := by
  have c0 := cell_self (u := .bool (sn z)) a0
  have c1 := keepo (R := g) (j := 0) (u := .bool (sn z)) a1 (by omega)
  exact ⟨g, A, rfl, keepo c0 (by omega), cell_self c1, keepof (keepof f0), keepof (keepof f1), (h.setBox a0 (by intro k m e; cases e)).setBox c0 (by intro k m e; cases e), hg, by simpa [World.setCell] using hl, (K.setCell (by exact hg) _).setCell (by exact hg) _⟩
theorem varWhole_new {W wn : World} {z : Int} {A : Option Addr} {T : TypeId} (K : Below W.heap.size W wn) (h : Nat32 wn A (ab z)) : VarWhole W z (.pointer (some ⟨wn.heap.size, 0, none⟩)) (wn.alloc (.cells #[.bool (sn z), .slice A (ln (ab z)) (ln (ab z))] T)) :=
  ⟨wn.heap.size, A, rfl, by go_simp, by go_simp, by go_simp, by go_simp, h.alloc _, K.size, by simp, K.alloc K.size _⟩
set_option maxHeartbeats 4000000 in
theorem mul_num (x y : Cx) (A1 A2 A3 B1 B2 B3 : Option Addr) (w : World) (hx : Num3 w A1 A2 A3 x) (hy : Num3 w B1 B2 B3 y) (hsx : sz 137438953472 x) (hsy : sz 137438953472 y) :
    Calls Try.prog 10 #[.agg #[.bool (sn (na x)), .slice A1 (ln (ab (na x))) (ln (ab (na x))), .bool (sn (nb x)), .slice A2 (ln (ab (nb x))) (ln (ab (nb x))), .slice A3 (ln (un x)) (ln (un x))], .agg #[.bool (sn (na y)), .slice B1 (ln (ab (na y))) (ln (ab (na y))), .bool (sn (nb y)), .slice B2 (ln (ab (nb y))) (ln (ab (nb y))), .slice B3 (ln (un y)) (ln (un y))]] w (RetNum w (x.mul y)) := by
  obtain ⟨hx1, hx2, hx3⟩ := hx
  obtain ⟨hy1, hy2, hy3⟩ := hy
  have HSX := Lib.hid hsx
  have HSY := Lib.hid hsy
  clear hsx hsy
  rw [← mul_fr, Int.sub_eq_add_neg]
  go_enter Try.func10, Try.ntmps10
  go_wp2_with fail
  obtain ⟨W, hW⟩ : ∃ W : World, W = (((w.alloc (.cells #[.bool (sn (na x)), .slice A1 (ln (ab (na x))) (ln (ab (na x))), .bool (sn (nb x)), .slice A2 (ln (ab (nb x))) (ln (ab (nb x))), .slice A3 (ln (un x)) (ln (un x))] 34)).alloc (.cells #[.bool (sn (na y)), .slice B1 (ln (ab (na y))) (ln (ab (na y))), .bool (sn (nb y)), .slice B2 (ln (ab (nb y))) (ln (ab (nb y))), .slice B3 (ln (un y)) (ln (un y))] 34)).alloc (.cells #[.bool false, .slice none 0 0, .bool false, .slice none 0 0, .slice none 0 0] 34)) := ⟨_, rfl⟩
  have s0_0 : W.cell? ⟨w.heap.size, 0, none⟩ = some (.bool (sn (na x))) := by subst hW; go_simp
  have s0_1 : W.cell? ⟨w.heap.size, 1, none⟩ = some (.slice A1 (ln (ab (na x))) (ln (ab (na x)))) := by subst hW; go_simp
  have s0_2 : W.cell? ⟨w.heap.size, 2, none⟩ = some (.bool (sn (nb x))) := by subst hW; go_simp
  have s0_3 : W.cell? ⟨w.heap.size, 3, none⟩ = some (.slice A2 (ln (ab (nb x))) (ln (ab (nb x)))) := by subst hW; go_simp
  have s0_4 : W.cell? ⟨w.heap.size, 4, none⟩ = some (.slice A3 (ln (un x)) (ln (un x))) := by subst hW; go_simp
  have s1_0 : W.cell? ⟨w.heap.size + 1, 0, none⟩ = some (.bool (sn (na y))) := by subst hW; go_simp
  have s1_1 : W.cell? ⟨w.heap.size + 1, 1, none⟩ = some (.slice B1 (ln (ab (na y))) (ln (ab (na y)))) := by subst hW; go_simp
  have s1_2 : W.cell? ⟨w.heap.size + 1, 2, none⟩ = some (.bool (sn (nb y))) := by subst hW; go_simp
  have s1_3 : W.cell? ⟨w.heap.size + 1, 3, none⟩ = some (.slice B2 (ln (ab (nb y))) (ln (ab (nb y)))) := by subst hW; go_simp
  have s1_4 : W.cell? ⟨w.heap.size + 1, 4, none⟩ = some (.slice B3 (ln (un y)) (ln (un y))) := by subst hW; go_simp
  have r0 : W.cell? ⟨w.heap.size + 1 + 1, 0, none⟩ = some (.bool false) := by subst hW; go_simp
  have f0 : W.frozen? ⟨w.heap.size + 1 + 1, 0, none⟩ = false := by subst hW; go_simp
  have r1 : W.cell? ⟨w.heap.size + 1 + 1, 1, none⟩ = some (.slice none 0 0) := by subst hW; go_simp
  have f1 : W.frozen? ⟨w.heap.size + 1 + 1, 1, none⟩ = false := by subst hW; go_simp
  have r2 : W.cell? ⟨w.heap.size + 1 + 1, 2, none⟩ = some (.bool false) := by subst hW; go_simp
  have f2 : W.frozen? ⟨w.heap.size + 1 + 1, 2, none⟩ = false := by subst hW; go_simp
  have r3 : W.cell? ⟨w.heap.size + 1 + 1, 3, none⟩ = some (.slice none 0 0) := by subst hW; go_simp
  have f3 : W.frozen? ⟨w.heap.size + 1 + 1, 3, none⟩ = false := by subst hW; go_simp
  have r4 : W.cell? ⟨w.heap.size + 1 + 1, 4, none⟩ = some (.slice none 0 0) := by subst hW; go_simp
  have f4 : W.frozen? ⟨w.heap.size + 1 + 1, 4, none⟩ = false := by subst hW; go_simp
  have HW : Below w.heap.size w W := by subst hW; exact ((((Below.refl w.heap.size w).alloc (Nat.le_refl _) _).alloc (by simp) _).alloc (by simp; omega) _)
  have l0 : w.heap.size < W.heap.size := by subst hW; simp <;> omega
  have l1 : w.heap.size + 1 < W.heap.size := by subst hW; simp <;> omega
  have l2 : w.heap.size + 1 + 1 < W.heap.size := by subst hW; simp
  have n0 : w.heap.size ≠ w.heap.size + 1 + 1 := by omega
  have n1 : w.heap.size + 1 ≠ w.heap.size + 1 + 1 := by omega
  replace hx1 := hx1.to HW
  replace hx2 := hx2.to HW
  replace hx3 := hx3.to HW
  replace hy1 := hy1.to HW
  replace hy2 := hy2.to HW
  replace hy3 := hy3.to HW
  rw [← hW]
  clear hW
  replace HW := Lib.hid HW
  go_upto_region 1 with fail
  go_cut [5] (fun p wx => VarWhole W (na x * na y + -(nb x * nb y)) p wx)
  case first =>
    have gB : Hid (Below W.heap.size W W) := Lib.hid (Below.refl _ _)
    go_region_held3 (fun w' => w'.cell? ⟨w.heap.size, 0, none⟩ = some (.bool (sn (na x))) ∧ w'.cell? ⟨w.heap.size, 1, none⟩ = some (.slice A1 (ln (ab (na x))) (ln (ab (na x)))) ∧ w'.cell? ⟨w.heap.size, 2, none⟩ = some (.bool (sn (nb x))) ∧ w'.cell? ⟨w.heap.size, 3, none⟩ = some (.slice A2 (ln (ab (nb x))) (ln (ab (nb x)))) ∧ w'.cell? ⟨w.heap.size + 1, 0, none⟩ = some (.bool (sn (na y))) ∧ w'.cell? ⟨w.heap.size + 1, 1, none⟩ = some (.slice B1 (ln (ab (na y))) (ln (ab (na y)))) ∧ w'.cell? ⟨w.heap.size + 1, 2, none⟩ = some (.bool (sn (nb y))) ∧ w'.cell? ⟨w.heap.size + 1, 3, none⟩ = some (.slice B2 (ln (ab (nb y))) (ln (ab (nb y))))) (first | with_reducible exact ⟨s0_0, s0_1, s0_2, s0_3, s1_0, s1_1, s1_2, s1_3⟩ | with_reducible exact ⟨(keepa s0_0 l0), (keepa s0_1 l0), (keepa s0_2 l0), (keepa s0_3 l0), (keepa s1_0 l1), (keepa s1_1 l1), (keepa s1_2 l1), (keepa s1_3 l1)⟩ | with_reducible exact ⟨(keeps (keeps s0_0 gn0) gn0), (keeps (keeps s0_1 gn0) gn0), (keeps (keeps s0_2 gn0) gn0), (keeps (keeps s0_3 gn0) gn0), (keeps (keeps s1_0 gn1) gn1), (keeps (keeps s1_1 gn1) gn1), (keeps (keeps s1_2 gn1) gn1), (keeps (keeps s1_3 gn1) gn1)⟩ | exact ⟨s0_0, s0_1, s0_2, s0_3, s1_0, s1_1, s1_2, s1_3⟩ | exact ⟨(keepa s0_0 l0), (keepa s0_1 l0), (keepa s0_2 l0), (keepa s0_3 l0), (keepa s1_0 l1), (keepa s1_1 l1), (keepa s1_2 l1), (keepa s1_3 l1)⟩) (first
      | (go_at_call_of 32 (Value.slice A1 (ln (ab (na x))) (ln (ab (na x)))); refine (times_any (na x) (na y) A1 B1 _ (by first | with_reducible exact hx1 | with_reducible exact hx1.alloc _ | exact hx1 | exact hx1.alloc _) (by first | with_reducible exact hy1 | with_reducible exact hy1.alloc _ | exact hy1 | exact hy1.alloc _) (by have := HSX.out; unfold sz at this; omega) (by have := HSY.out; unfold sz at this; omega)).mono ?_; rintro e w1 ⟨S1, rfl, h1, ha1⟩; have hb1 : Below W.heap.size W w1 := (by first | with_reducible exact ha1 | with_reducible exact undrew ha1 | with_reducible exact unalloc ha1 | with_reducible exact undrewalloc ha1 | with_reducible exact undrew (unalloc ha1)); (try replace ga0 := keepc hb1 ga0 gl); (try replace ga1 := keepc hb1 ga1 gl); (try replace gf0 := keepf hb1 gf0 gl); (try replace gf1 := keepf hb1 gf1 gl); (try replace gl := Nat.lt_of_lt_of_le gl hb1.size); (try (have gx := (by first | with_reducible exact newvar ha1 | with_reducible exact newvard ha1 | with_reducible exact newvare ha1 : NewVar W w1); have ga0 := gx.1; have ga1 := gx.2.1; have gf0 := gx.2.2.1; have gf1 := gx.2.2.2.1; have gl := gx.2.2.2.2; have gge := gB.out.size; have gn0 := Nat.ne_of_lt l0; have gn1 := Nat.ne_of_lt l1; have gn2 := Nat.ne_of_lt l2; clear gx)); replace gB := Lib.hid (onto gB.out hb1); replace s0_0 := keepc hb1 s0_0 l0; replace s0_1 := keepc hb1 s0_1 l0; replace s0_2 := keepc hb1 s0_2 l0; replace s0_3 := keepc hb1 s0_3 l0; replace s0_4 := keepc hb1 s0_4 l0; replace s1_0 := keepc hb1 s1_0 l1; replace s1_1 := keepc hb1 s1_1 l1; replace s1_2 := keepc hb1 s1_2 l1; replace s1_3 := keepc hb1 s1_3 l1; replace s1_4 := keepc hb1 s1_4 l1; replace r0 := keepc hb1 r0 l2; replace f0 := keepf hb1 f0 l2; replace r1 := keepc hb1 r1 l2; replace f1 := keepf hb1 f1 l2; replace r2 := keepc hb1 r2 l2; replace f2 := keepf hb1 f2 l2; replace r3 := keepc hb1 r3 l2; replace f3 := keepf hb1 f3 l2; replace r4 := keepc hb1 r4 l2; replace f4 := keepf hb1 f4 l2; replace l0 := Nat.lt_of_lt_of_le l0 hb1.size; replace l1 := Nat.lt_of_lt_of_le l1 hb1.size; replace l2 := Nat.lt_of_lt_of_le l2 hb1.size; replace hx1 := hx1.to hb1; replace hx2 := hx2.to hb1; replace hx3 := hx3.to hb1; replace hy1 := hy1.to hb1; replace hy2 := hy2.to hb1; replace hy3 := hy3.to hb1; replace HW := Lib.hid (hstep HW hb1); clear hb1; clear ha1)
      | (go_at_call_of 32 (Value.slice A2 (ln (ab (nb x))) (ln (ab (nb x)))); refine (times_any (nb x) (nb y) A2 B2 _ (by first | with_reducible exact hx2 | with_reducible exact hx2.alloc _ | exact hx2 | exact hx2.alloc _) (by first | with_reducible exact hy2 | with_reducible exact hy2.alloc _ | exact hy2 | exact hy2.alloc _) (by have := HSX.out; unfold sz at this; omega) (by have := HSY.out; unfold sz at this; omega)).mono ?_; rintro e w2 ⟨S2, rfl, h2, ha2⟩; have hb2 : Below w1.heap.size w1 w2 := (by first | with_reducible exact ha2 | with_reducible exact undrew ha2 | with_reducible exact unalloc ha2 | with_reducible exact undrewalloc ha2 | with_reducible exact undrew (unalloc ha2)); (try replace ga0 := keepc hb2 ga0 gl); (try replace ga1 := keepc hb2 ga1 gl); (try replace gf0 := keepf hb2 gf0 gl); (try replace gf1 := keepf hb2 gf1 gl); (try replace gl := Nat.lt_of_lt_of_le gl hb2.size); (try (have gx := (by first | with_reducible exact newvar ha2 | with_reducible exact newvard ha2 | with_reducible exact newvare ha2 : NewVar w1 w2); have ga0 := gx.1; have ga1 := gx.2.1; have gf0 := gx.2.2.1; have gf1 := gx.2.2.2.1; have gl := gx.2.2.2.2; have gge := gB.out.size; have gn0 := Nat.ne_of_lt l0; have gn1 := Nat.ne_of_lt l1; have gn2 := Nat.ne_of_lt l2; clear gx)); replace gB := Lib.hid (onto gB.out hb2); replace s0_0 := keepc hb2 s0_0 l0; replace s0_1 := keepc hb2 s0_1 l0; replace s0_2 := keepc hb2 s0_2 l0; replace s0_3 := keepc hb2 s0_3 l0; replace s0_4 := keepc hb2 s0_4 l0; replace s1_0 := keepc hb2 s1_0 l1; replace s1_1 := keepc hb2 s1_1 l1; replace s1_2 := keepc hb2 s1_2 l1; replace s1_3 := keepc hb2 s1_3 l1; replace s1_4 := keepc hb2 s1_4 l1; replace r0 := keepc hb2 r0 l2; replace f0 := keepf hb2 f0 l2; replace r1 := keepc hb2 r1 l2; replace f1 := keepf hb2 f1 l2; replace r2 := keepc hb2 r2 l2; replace f2 := keepf hb2 f2 l2; replace r3 := keepc hb2 r3 l2; replace f3 := keepf hb2 f3 l2; replace r4 := keepc hb2 r4 l2; replace f4 := keepf hb2 f4 l2; replace l0 := Nat.lt_of_lt_of_le l0 hb2.size; replace l1 := Nat.lt_of_lt_of_le l1 hb2.size; replace l2 := Nat.lt_of_lt_of_le l2 hb2.size; replace hx1 := hx1.to hb2; replace hx2 := hx2.to hb2; replace hx3 := hx3.to hb2; replace hy1 := hy1.to hb2; replace hy2 := hy2.to hb2; replace hy3 := hy3.to hb2; replace h1 := h1.to hb2; replace HW := Lib.hid (hstep HW hb2); clear hb2; clear ha2)
      | (go_at_call 34; refine (minus_any (nb x * nb y) S2 _ (by first | with_reducible exact h2 | with_reducible exact h2.alloc _ | exact h2 | exact h2.alloc _)).mono ?_; rintro e w3 ⟨S3, rfl, h3, ha3⟩; have hb3 : Below w2.heap.size w2 w3 := (by first | with_reducible exact ha3 | with_reducible exact undrew ha3 | with_reducible exact unalloc ha3 | with_reducible exact undrewalloc ha3 | with_reducible exact undrew (unalloc ha3)); (try replace ga0 := keepc hb3 ga0 gl); (try replace ga1 := keepc hb3 ga1 gl); (try replace gf0 := keepf hb3 gf0 gl); (try replace gf1 := keepf hb3 gf1 gl); (try replace gl := Nat.lt_of_lt_of_le gl hb3.size); (try (have gx := (by first | with_reducible exact newvar ha3 | with_reducible exact newvard ha3 | with_reducible exact newvare ha3 : NewVar w2 w3); have ga0 := gx.1; have ga1 := gx.2.1; have gf0 := gx.2.2.1; have gf1 := gx.2.2.2.1; have gl := gx.2.2.2.2; have gge := gB.out.size; have gn0 := Nat.ne_of_lt l0; have gn1 := Nat.ne_of_lt l1; have gn2 := Nat.ne_of_lt l2; clear gx)); replace gB := Lib.hid (onto gB.out hb3); replace s0_0 := keepc hb3 s0_0 l0; replace s0_1 := keepc hb3 s0_1 l0; replace s0_2 := keepc hb3 s0_2 l0; replace s0_3 := keepc hb3 s0_3 l0; replace s0_4 := keepc hb3 s0_4 l0; replace s1_0 := keepc hb3 s1_0 l1; replace s1_1 := keepc hb3 s1_1 l1; replace s1_2 := keepc hb3 s1_2 l1; replace s1_3 := keepc hb3 s1_3 l1; replace s1_4 := keepc hb3 s1_4 l1; replace r0 := keepc hb3 r0 l2; replace f0 := keepf hb3 f0 l2; replace r1 := keepc hb3 r1 l2; replace f1 := keepf hb3 f1 l2; replace r2 := keepc hb3 r2 l2; replace f2 := keepf hb3 f2 l2; replace r3 := keepc hb3 r3 l2; replace f3 := keepf hb3 f3 l2; replace r4 := keepc hb3 r4 l2; replace f4 := keepf hb3 f4 l2; replace l0 := Nat.lt_of_lt_of_le l0 hb3.size; replace l1 := Nat.lt_of_lt_of_le l1 hb3.size; replace l2 := Nat.lt_of_lt_of_le l2 hb3.size; replace hx1 := hx1.to hb3; replace hx2 := hx2.to hb3; replace hx3 := hx3.to hb3; replace hy1 := hy1.to hb3; replace hy2 := hy2.to hb3; replace hy3 := hy3.to hb3; replace h1 := h1.to hb3; replace h2 := h2.to hb3; replace HW := Lib.hid (hstep HW hb3); clear hb3; clear ha3)
      | (go_at_call 33; refine (plus_any (na x * na y) (-(nb x * nb y)) S1 S3 _ (by first | with_reducible exact h1 | with_reducible exact h1.alloc _ | exact h1 | exact h1.alloc _) (by first | with_reducible exact h3 | with_reducible exact h3.alloc _ | exact h3 | exact h3.alloc _) (by have h := (ab_mul_ln HSX.out.1 HSY.out.1); omega) (by rw [ab_neg]; have h := (ab_mul_ln HSX.out.2.1 HSY.out.2.1); omega)).mono ?_; rintro e w4 ⟨S4, rfl, h4, ha4⟩; have hb4 : Below w3.heap.size w3 w4 := (by first | with_reducible exact ha4 | with_reducible exact undrew ha4 | with_reducible exact unalloc ha4 | with_reducible exact undrewalloc ha4 | with_reducible exact undrew (unalloc ha4)); (try replace ga0 := keepc hb4 ga0 gl); (try replace ga1 := keepc hb4 ga1 gl); (try replace gf0 := keepf hb4 gf0 gl); (try replace gf1 := keepf hb4 gf1 gl); (try replace gl := Nat.lt_of_lt_of_le gl hb4.size); (try (have gx := (by first | with_reducible exact newvar ha4 | with_reducible exact newvard ha4 | with_reducible exact newvare ha4 : NewVar w3 w4); have ga0 := gx.1; have ga1 := gx.2.1; have gf0 := gx.2.2.1; have gf1 := gx.2.2.2.1; have gl := gx.2.2.2.2; have gge := gB.out.size; have gn0 := Nat.ne_of_lt l0; have gn1 := Nat.ne_of_lt l1; have gn2 := Nat.ne_of_lt l2; clear gx)); replace gB := Lib.hid (onto gB.out hb4); replace s0_0 := keepc hb4 s0_0 l0; replace s0_1 := keepc hb4 s0_1 l0; replace s0_2 := keepc hb4 s0_2 l0; replace s0_3 := keepc hb4 s0_3 l0; replace s0_4 := keepc hb4 s0_4 l0; replace s1_0 := keepc hb4 s1_0 l1; replace s1_1 := keepc hb4 s1_1 l1; replace s1_2 := keepc hb4 s1_2 l1; replace s1_3 := keepc hb4 s1_3 l1; replace s1_4 := keepc hb4 s1_4 l1; replace r0 := keepc hb4 r0 l2; replace f0 := keepf hb4 f0 l2; replace r1 := keepc hb4 r1 l2; replace f1 := keepf hb4 f1 l2; replace r2 := keepc hb4 r2 l2; replace f2 := keepf hb4 f2 l2; replace r3 := keepc hb4 r3 l2; replace f3 := keepf hb4 f3 l2; replace r4 := keepc hb4 r4 l2; replace f4 := keepf hb4 f4 l2; replace l0 := Nat.lt_of_lt_of_le l0 hb4.size; replace l1 := Nat.lt_of_lt_of_le l1 hb4.size; replace l2 := Nat.lt_of_lt_of_le l2 hb4.size; replace hx1 := hx1.to hb4; replace hx2 := hx2.to hb4; replace hx3 := hx3.to hb4; replace hy1 := hy1.to hb4; replace hy2 := hy2.to hb4; replace hy3 := hy3.to hb4; replace h1 := h1.to hb4; replace h2 := h2.to hb4; replace h3 := h3.to hb4; replace HW := Lib.hid (hstep HW hb4); clear hb4; clear ha4))
    all_goals
      go_wp2_with fail
      go_meet
      first | exact varWhole_set gB.out ga0 ga1 gf0 gf1 h4 gge gl | exact varWhole_new gB.out h4
  case rest =>
  obtain ⟨g0, V0, hp0, t0_0, t0_1, u0_0, u0_1, hv0, hg0, l100, hb1⟩ := hcut
  subst hp0
  have n100 : g0 ≠ w.heap.size + 1 + 1 := by omega
  obtain ⟨w1, rfl⟩ : ∃ X : World, X = wc := ⟨_, rfl⟩
  replace s0_0 := keepc hb1 s0_0 l0
  replace s0_1 := keepc hb1 s0_1 l0
  replace s0_2 := keepc hb1 s0_2 l0
  replace s0_3 := keepc hb1 s0_3 l0
  replace s0_4 := keepc hb1 s0_4 l0
  replace s1_0 := keepc hb1 s1_0 l1
  replace s1_1 := keepc hb1 s1_1 l1
  replace s1_2 := keepc hb1 s1_2 l1
  replace s1_3 := keepc hb1 s1_3 l1
  replace s1_4 := keepc hb1 s1_4 l1
  replace r0 := keepc hb1 r0 l2
  replace f0 := keepf hb1 f0 l2
  replace r1 := keepc hb1 r1 l2
  replace f1 := keepf hb1 f1 l2
  replace r2 := keepc hb1 r2 l2
  replace f2 := keepf hb1 f2 l2
  replace r3 := keepc hb1 r3 l2
  replace f3 := keepf hb1 f3 l2
  replace r4 := keepc hb1 r4 l2
  replace f4 := keepf hb1 f4 l2
  replace l0 := Nat.lt_of_lt_of_le l0 hb1.size
  replace l1 := Nat.lt_of_lt_of_le l1 hb1.size
  replace l2 := Nat.lt_of_lt_of_le l2 hb1.size
  replace hx1 := hx1.to hb1
  replace hx2 := hx2.to hb1
  replace hx3 := hx3.to hb1
  replace hy1 := hy1.to hb1
  replace hy2 := hy2.to hb1
  replace hy3 := hy3.to hb1
  replace HW := Lib.hid (hstep HW hb1)
  clear hb1
  go_upto_region 2 with fail
  go_cut [6] (fun p wx => VarWhole w1 (na x * nb y + nb x * na y) p wx)
  case first =>
    have gB : Hid (Below w1.heap.size w1 w1) := Lib.hid (Below.refl _ _)
    go_region_held3 (fun w' => w'.cell? ⟨w.heap.size, 0, none⟩ = some (.bool (sn (na x))) ∧ w'.cell? ⟨w.heap.size, 1, none⟩ = some (.slice A1 (ln (ab (na x))) (ln (ab (na x)))) ∧ w'.cell? ⟨w.heap.size, 2, none⟩ = some (.bool (sn (nb x))) ∧ w'.cell? ⟨w.heap.size, 3, none⟩ = some (.slice A2 (ln (ab (nb x))) (ln (ab (nb x)))) ∧ w'.cell? ⟨w.heap.size + 1, 0, none⟩ = some (.bool (sn (na y))) ∧ w'.cell? ⟨w.heap.size + 1, 1, none⟩ = some (.slice B1 (ln (ab (na y))) (ln (ab (na y)))) ∧ w'.cell? ⟨w.heap.size + 1, 2, none⟩ = some (.bool (sn (nb y))) ∧ w'.cell? ⟨w.heap.size + 1, 3, none⟩ = some (.slice B2 (ln (ab (nb y))) (ln (ab (nb y))))) (first | with_reducible exact ⟨s0_0, s0_1, s0_2, s0_3, s1_0, s1_1, s1_2, s1_3⟩ | with_reducible exact ⟨(keepa s0_0 l0), (keepa s0_1 l0), (keepa s0_2 l0), (keepa s0_3 l0), (keepa s1_0 l1), (keepa s1_1 l1), (keepa s1_2 l1), (keepa s1_3 l1)⟩ | with_reducible exact ⟨(keeps (keeps s0_0 gn0) gn0), (keeps (keeps s0_1 gn0) gn0), (keeps (keeps s0_2 gn0) gn0), (keeps (keeps s0_3 gn0) gn0), (keeps (keeps s1_0 gn1) gn1), (keeps (keeps s1_1 gn1) gn1), (keeps (keeps s1_2 gn1) gn1), (keeps (keeps s1_3 gn1) gn1)⟩ | exact ⟨s0_0, s0_1, s0_2, s0_3, s1_0, s1_1, s1_2, s1_3⟩ | exact ⟨(keepa s0_0 l0), (keepa s0_1 l0), (keepa s0_2 l0), (keepa s0_3 l0), (keepa s1_0 l1), (keepa s1_1 l1), (keepa s1_2 l1), (keepa s1_3 l1)⟩) (first
      | (go_at_call_of 32 (Value.slice A1 (ln (ab (na x))) (ln (ab (na x)))); refine (times_any (na x) (nb y) A1 B2 _ (by first | with_reducible exact hx1 | with_reducible exact hx1.alloc _ | exact hx1 | exact hx1.alloc _) (by first | with_reducible exact hy2 | with_reducible exact hy2.alloc _ | exact hy2 | exact hy2.alloc _) (by have := HSX.out; unfold sz at this; omega) (by have := HSY.out; unfold sz at this; omega)).mono ?_; rintro e w2 ⟨S2, rfl, h2, ha2⟩; have hb2 : Below w1.heap.size w1 w2 := (by first | with_reducible exact ha2 | with_reducible exact undrew ha2 | with_reducible exact unalloc ha2 | with_reducible exact undrewalloc ha2 | with_reducible exact undrew (unalloc ha2)); (try replace ga0 := keepc hb2 ga0 gl); (try replace ga1 := keepc hb2 ga1 gl); (try replace gf0 := keepf hb2 gf0 gl); (try replace gf1 := keepf hb2 gf1 gl); (try replace gl := Nat.lt_of_lt_of_le gl hb2.size); (try (have gx := (by first | with_reducible exact newvar ha2 | with_reducible exact newvard ha2 | with_reducible exact newvare ha2 : NewVar w1 w2); have ga0 := gx.1; have ga1 := gx.2.1; have gf0 := gx.2.2.1; have gf1 := gx.2.2.2.1; have gl := gx.2.2.2.2; have gge := gB.out.size; have gn0 := Nat.ne_of_lt l0; have gn1 := Nat.ne_of_lt l1; have gn2 := Nat.ne_of_lt l2; have gn100 := Nat.ne_of_lt l100; clear gx)); replace gB := Lib.hid (onto gB.out hb2); replace s0_0 := keepc hb2 s0_0 l0; replace s0_1 := keepc hb2 s0_1 l0; replace s0_2 := keepc hb2 s0_2 l0; replace s0_3 := keepc hb2 s0_3 l0; replace s0_4 := keepc hb2 s0_4 l0; replace s1_0 := keepc hb2 s1_0 l1; replace s1_1 := keepc hb2 s1_1 l1; replace s1_2 := keepc hb2 s1_2 l1; replace s1_3 := keepc hb2 s1_3 l1; replace s1_4 := keepc hb2 s1_4 l1; replace t0_0 := keepc hb2 t0_0 l100; replace t0_1 := keepc hb2 t0_1 l100; replace r0 := keepc hb2 r0 l2; replace f0 := keepf hb2 f0 l2; replace r1 := keepc hb2 r1 l2; replace f1 := keepf hb2 f1 l2; replace r2 := keepc hb2 r2 l2; replace f2 := keepf hb2 f2 l2; replace r3 := keepc hb2 r3 l2; replace f3 := keepf hb2 f3 l2; replace r4 := keepc hb2 r4 l2; replace f4 := keepf hb2 f4 l2; replace l0 := Nat.lt_of_lt_of_le l0 hb2.size; replace l1 := Nat.lt_of_lt_of_le l1 hb2.size; replace l2 := Nat.lt_of_lt_of_le l2 hb2.size; replace l100 := Nat.lt_of_lt_of_le l100 hb2.size; replace hx1 := hx1.to hb2; replace hx2 := hx2.to hb2; replace hx3 := hx3.to hb2; replace hy1 := hy1.to hb2; replace hy2 := hy2.to hb2; replace hy3 := hy3.to hb2; replace hv0 := hv0.to hb2; replace HW := Lib.hid (hstep HW hb2); clear hb2; clear ha2)
      | (go_at_call_of 32 (Value.slice A2 (ln (ab (nb x))) (ln (ab (nb x)))); refine (times_any (nb x) (na y) A2 B1 _ (by first | with_reducible exact hx2 | with_reducible exact hx2.alloc _ | exact hx2 | exact hx2.alloc _) (by first | with_reducible exact hy1 | with_reducible exact hy1.alloc _ | exact hy1 | exact hy1.alloc _) (by have := HSX.out; unfold sz at this; omega) (by have := HSY.out; unfold sz at this; omega)).mono ?_; rintro e w3 ⟨S3, rfl, h3, ha3⟩; have hb3 : Below w2.heap.size w2 w3 := (by first | with_reducible exact ha3 | with_reducible exact undrew ha3 | with_reducible exact unalloc ha3 | with_reducible exact undrewalloc ha3 | with_reducible exact undrew (unalloc ha3)); (try replace ga0 := keepc hb3 ga0 gl); (try replace ga1 := keepc hb3 ga1 gl); (try replace gf0 := keepf hb3 gf0 gl); (try replace gf1 := keepf hb3 gf1 gl); (try replace gl := Nat.lt_of_lt_of_le gl hb3.size); (try (have gx := (by first | with_reducible exact newvar ha3 | with_reducible exact newvard ha3 | with_reducible exact newvare ha3 : NewVar w2 w3); have ga0 := gx.1; have ga1 := gx.2.1; have gf0 := gx.2.2.1; have gf1 := gx.2.2.2.1; have gl := gx.2.2.2.2; have gge := gB.out.size; have gn0 := Nat.ne_of_lt l0; have gn1 := Nat.ne_of_lt l1; have gn2 := Nat.ne_of_lt l2; have gn100 := Nat.ne_of_lt l100; clear gx)); replace gB := Lib.hid (onto gB.out hb3); replace s0_0 := keepc hb3 s0_0 l0; replace s0_1 := keepc hb3 s0_1 l0; replace s0_2 := keepc hb3 s0_2 l0; replace s0_3 := keepc hb3 s0_3 l0; replace s0_4 := keepc hb3 s0_4 l0; replace s1_0 := keepc hb3 s1_0 l1; replace s1_1 := keepc hb3 s1_1 l1; replace s1_2 := keepc hb3 s1_2 l1; replace s1_3 := keepc hb3 s1_3 l1; replace s1_4 := keepc hb3 s1_4 l1; replace t0_0 := keepc hb3 t0_0 l100; replace t0_1 := keepc hb3 t0_1 l100; replace r0 := keepc hb3 r0 l2; replace f0 := keepf hb3 f0 l2; replace r1 := keepc hb3 r1 l2; replace f1 := keepf hb3 f1 l2; replace r2 := keepc hb3 r2 l2; replace f2 := keepf hb3 f2 l2; replace r3 := keepc hb3 r3 l2; replace f3 := keepf hb3 f3 l2; replace r4 := keepc hb3 r4 l2; replace f4 := keepf hb3 f4 l2; replace l0 := Nat.lt_of_lt_of_le l0 hb3.size; replace l1 := Nat.lt_of_lt_of_le l1 hb3.size; replace l2 := Nat.lt_of_lt_of_le l2 hb3.size; replace l100 := Nat.lt_of_lt_of_le l100 hb3.size; replace hx1 := hx1.to hb3; replace hx2 := hx2.to hb3; replace hx3 := hx3.to hb3; replace hy1 := hy1.to hb3; replace hy2 := hy2.to hb3; replace hy3 := hy3.to hb3; replace hv0 := hv0.to hb3; replace h2 := h2.to hb3; replace HW := Lib.hid (hstep HW hb3); clear hb3; clear ha3)
      | (go_at_call 33; refine (plus_any (na x * nb y) (nb x * na y) S2 S3 _ (by first | with_reducible exact h2 | with_reducible exact h2.alloc _ | exact h2 | exact h2.alloc _) (by first | with_reducible exact h3 | with_reducible exact h3.alloc _ | exact h3 | exact h3.alloc _) (by have h := (ab_mul_ln HSX.out.1 HSY.out.2.1); omega) (by have h := (ab_mul_ln HSX.out.2.1 HSY.out.1); omega)).mono ?_; rintro e w4 ⟨S4, rfl, h4, ha4⟩; have hb4 : Below w3.heap.size w3 w4 := (by first | with_reducible exact ha4 | with_reducible exact undrew ha4 | with_reducible exact unalloc ha4 | with_reducible exact undrewalloc ha4 | with_reducible exact undrew (unalloc ha4)); (try replace ga0 := keepc hb4 ga0 gl); (try replace ga1 := keepc hb4 ga1 gl); (try replace gf0 := keepf hb4 gf0 gl); (try replace gf1 := keepf hb4 gf1 gl); (try replace gl := Nat.lt_of_lt_of_le gl hb4.size); (try (have gx := (by first | with_reducible exact newvar ha4 | with_reducible exact newvard ha4 | with_reducible exact newvare ha4 : NewVar w3 w4); have ga0 := gx.1; have ga1 := gx.2.1; have gf0 := gx.2.2.1; have gf1 := gx.2.2.2.1; have gl := gx.2.2.2.2; have gge := gB.out.size; have gn0 := Nat.ne_of_lt l0; have gn1 := Nat.ne_of_lt l1; have gn2 := Nat.ne_of_lt l2; have gn100 := Nat.ne_of_lt l100; clear gx)); replace gB := Lib.hid (onto gB.out hb4); replace s0_0 := keepc hb4 s0_0 l0; replace s0_1 := keepc hb4 s0_1 l0; replace s0_2 := keepc hb4 s0_2 l0; replace s0_3 := keepc hb4 s0_3 l0; replace s0_4 := keepc hb4 s0_4 l0; replace s1_0 := keepc hb4 s1_0 l1; replace s1_1 := keepc hb4 s1_1 l1; replace s1_2 := keepc hb4 s1_2 l1; replace s1_3 := keepc hb4 s1_3 l1; replace s1_4 := keepc hb4 s1_4 l1; replace t0_0 := keepc hb4 t0_0 l100; replace t0_1 := keepc hb4 t0_1 l100; replace r0 := keepc hb4 r0 l2; replace f0 := keepf hb4 f0 l2; replace r1 := keepc hb4 r1 l2; replace f1 := keepf hb4 f1 l2; replace r2 := keepc hb4 r2 l2; replace f2 := keepf hb4 f2 l2; replace r3 := keepc hb4 r3 l2; replace f3 := keepf hb4 f3 l2; replace r4 := keepc hb4 r4 l2; replace f4 := keepf hb4 f4 l2; replace l0 := Nat.lt_of_lt_of_le l0 hb4.size; replace l1 := Nat.lt_of_lt_of_le l1 hb4.size; replace l2 := Nat.lt_of_lt_of_le l2 hb4.size; replace l100 := Nat.lt_of_lt_of_le l100 hb4.size; replace hx1 := hx1.to hb4; replace hx2 := hx2.to hb4; replace hx3 := hx3.to hb4; replace hy1 := hy1.to hb4; replace hy2 := hy2.to hb4; replace hy3 := hy3.to hb4; replace hv0 := hv0.to hb4; replace h2 := h2.to hb4; replace h3 := h3.to hb4; replace HW := Lib.hid (hstep HW hb4); clear hb4; clear ha4))
    all_goals
      go_wp2_with fail
      go_meet
      first | exact varWhole_set gB.out ga0 ga1 gf0 gf1 h4 gge gl | exact varWhole_new gB.out h4
  case rest =>
  obtain ⟨g1, V1, hp1, t1_0, t1_1, u1_0, u1_1, hv1, hg1, l101, hb2⟩ := hcut
  subst hp1
  have n101 : g1 ≠ w.heap.size + 1 + 1 := by omega
  obtain ⟨w2, rfl⟩ : ∃ X : World, X = wc := ⟨_, rfl⟩
  replace s0_0 := keepc hb2 s0_0 l0
  replace s0_1 := keepc hb2 s0_1 l0
  replace s0_2 := keepc hb2 s0_2 l0
  replace s0_3 := keepc hb2 s0_3 l0
  replace s0_4 := keepc hb2 s0_4 l0
  replace s1_0 := keepc hb2 s1_0 l1
  replace s1_1 := keepc hb2 s1_1 l1
  replace s1_2 := keepc hb2 s1_2 l1
  replace s1_3 := keepc hb2 s1_3 l1
  replace s1_4 := keepc hb2 s1_4 l1
  replace t0_0 := keepc hb2 t0_0 l100
  replace t0_1 := keepc hb2 t0_1 l100
  replace r0 := keepc hb2 r0 l2
  replace f0 := keepf hb2 f0 l2
  replace r1 := keepc hb2 r1 l2
  replace f1 := keepf hb2 f1 l2
  replace r2 := keepc hb2 r2 l2
  replace f2 := keepf hb2 f2 l2
  replace r3 := keepc hb2 r3 l2
  replace f3 := keepf hb2 f3 l2
  replace r4 := keepc hb2 r4 l2
  replace f4 := keepf hb2 f4 l2
  replace l0 := Nat.lt_of_lt_of_le l0 hb2.size
  replace l1 := Nat.lt_of_lt_of_le l1 hb2.size
  replace l2 := Nat.lt_of_lt_of_le l2 hb2.size
  replace l100 := Nat.lt_of_lt_of_le l100 hb2.size
  replace hx1 := hx1.to hb2
  replace hx2 := hx2.to hb2
  replace hx3 := hx3.to hb2
  replace hy1 := hy1.to hb2
  replace hy2 := hy2.to hb2
  replace hy3 := hy3.to hb2
  replace hv0 := hv0.to hb2
  replace HW := Lib.hid (hstep HW hb2)
  clear hb2
  go_wp2_with fail
  go_region_held3 (fun w' => w'.cell? ⟨w.heap.size, 0, none⟩ = some (.bool (sn (na x))) ∧ w'.cell? ⟨w.heap.size, 1, none⟩ = some (.slice A1 (ln (ab (na x))) (ln (ab (na x)))) ∧ w'.cell? ⟨w.heap.size, 2, none⟩ = some (.bool (sn (nb x))) ∧ w'.cell? ⟨w.heap.size, 3, none⟩ = some (.slice A2 (ln (ab (nb x))) (ln (ab (nb x)))) ∧ w'.cell? ⟨w.heap.size, 4, none⟩ = some (.slice A3 (ln (un x)) (ln (un x))) ∧ w'.cell? ⟨w.heap.size + 1, 0, none⟩ = some (.bool (sn (na y))) ∧ w'.cell? ⟨w.heap.size + 1, 1, none⟩ = some (.slice B1 (ln (ab (na y))) (ln (ab (na y)))) ∧ w'.cell? ⟨w.heap.size + 1, 2, none⟩ = some (.bool (sn (nb y))) ∧ w'.cell? ⟨w.heap.size + 1, 3, none⟩ = some (.slice B2 (ln (ab (nb y))) (ln (ab (nb y)))) ∧ w'.cell? ⟨w.heap.size + 1, 4, none⟩ = some (.slice B3 (ln (un y)) (ln (un y))) ∧ w'.cell? ⟨g0, 0, none⟩ = some (.bool (sn (na x * na y + -(nb x * nb y)))) ∧ w'.cell? ⟨g0, 1, none⟩ = some (.slice V0 (ln (ab (na x * na y + -(nb x * nb y)))) (ln (ab (na x * na y + -(nb x * nb y))))) ∧ w'.cell? ⟨g1, 0, none⟩ = some (.bool (sn (na x * nb y + nb x * na y))) ∧ w'.cell? ⟨g1, 1, none⟩ = some (.slice V1 (ln (ab (na x * nb y + nb x * na y))) (ln (ab (na x * nb y + nb x * na y))))) (first | with_reducible exact ⟨s0_0, s0_1, s0_2, s0_3, s0_4, s1_0, s1_1, s1_2, s1_3, s1_4, t0_0, t0_1, t1_0, t1_1⟩ | with_reducible exact ⟨(keeps (keeps (keeps (keeps (keeps s0_0 n0) n0) n0) n0) n0), (keeps (keeps (keeps (keeps (keeps s0_1 n0) n0) n0) n0) n0), (keeps (keeps (keeps (keeps (keeps s0_2 n0) n0) n0) n0) n0), (keeps (keeps (keeps (keeps (keeps s0_3 n0) n0) n0) n0) n0), (keeps (keeps (keeps (keeps (keeps s0_4 n0) n0) n0) n0) n0), (keeps (keeps (keeps (keeps (keeps s1_0 n1) n1) n1) n1) n1), (keeps (keeps (keeps (keeps (keeps s1_1 n1) n1) n1) n1) n1), (keeps (keeps (keeps (keeps (keeps s1_2 n1) n1) n1) n1) n1), (keeps (keeps (keeps (keeps (keeps s1_3 n1) n1) n1) n1) n1), (keeps (keeps (keeps (keeps (keeps s1_4 n1) n1) n1) n1) n1), (keeps (keeps (keeps (keeps (keeps t0_0 n100) n100) n100) n100) n100), (keeps (keeps (keeps (keeps (keeps t0_1 n100) n100) n100) n100) n100), (keeps (keeps (keeps (keeps (keeps t1_0 n101) n101) n101) n101) n101), (keeps (keeps (keeps (keeps (keeps t1_1 n101) n101) n101) n101) n101)⟩ | exact ⟨s0_0, s0_1, s0_2, s0_3, s0_4, s1_0, s1_1, s1_2, s1_3, s1_4, t0_0, t0_1, t1_0, t1_1⟩) (first
    | (go_at_call_of 36 (Value.agg #[.bool (sn (na x)), .slice A1 (ln (ab (na x))) (ln (ab (na x))), .bool (sn (nb x)), .slice A2 (ln (ab (nb x))) (ln (ab (nb x))), .slice A3 (ln (un x)) (ln (un x))]); refine (den_any x A1 A2 A3 _ (by exact num3_mk hx1 hx2 hx3)).mono ?_; rintro e w3 ⟨D1, rfl, d1, hb3⟩; have hb3 := undrew hb3; replace s0_0 := keepc hb3 s0_0 l0; replace s0_1 := keepc hb3 s0_1 l0; replace s0_2 := keepc hb3 s0_2 l0; replace s0_3 := keepc hb3 s0_3 l0; replace s0_4 := keepc hb3 s0_4 l0; replace s1_0 := keepc hb3 s1_0 l1; replace s1_1 := keepc hb3 s1_1 l1; replace s1_2 := keepc hb3 s1_2 l1; replace s1_3 := keepc hb3 s1_3 l1; replace s1_4 := keepc hb3 s1_4 l1; replace t0_0 := keepc hb3 t0_0 l100; replace t0_1 := keepc hb3 t0_1 l100; replace t1_0 := keepc hb3 t1_0 l101; replace t1_1 := keepc hb3 t1_1 l101; replace r0 := keepc hb3 r0 l2; replace f0 := keepf hb3 f0 l2; replace r1 := keepc hb3 r1 l2; replace f1 := keepf hb3 f1 l2; replace r2 := keepc hb3 r2 l2; replace f2 := keepf hb3 f2 l2; replace r3 := keepc hb3 r3 l2; replace f3 := keepf hb3 f3 l2; replace r4 := keepc hb3 r4 l2; replace f4 := keepf hb3 f4 l2; replace l0 := Nat.lt_of_lt_of_le l0 hb3.size; replace l1 := Nat.lt_of_lt_of_le l1 hb3.size; replace l2 := Nat.lt_of_lt_of_le l2 hb3.size; replace l100 := Nat.lt_of_lt_of_le l100 hb3.size; replace l101 := Nat.lt_of_lt_of_le l101 hb3.size; replace hx1 := hx1.to hb3; replace hx2 := hx2.to hb3; replace hx3 := hx3.to hb3; replace hy1 := hy1.to hb3; replace hy2 := hy2.to hb3; replace hy3 := hy3.to hb3; replace hv0 := hv0.to hb3; replace hv1 := hv1.to hb3; replace HW := Lib.hid (hstep HW hb3); clear hb3)
    | (go_at_call_of 36 (Value.agg #[.bool (sn (na y)), .slice B1 (ln (ab (na y))) (ln (ab (na y))), .bool (sn (nb y)), .slice B2 (ln (ab (nb y))) (ln (ab (nb y))), .slice B3 (ln (un y)) (ln (un y))]); refine (den_any y B1 B2 B3 _ (by exact num3_mk hy1 hy2 hy3)).mono ?_; rintro e w4 ⟨D2, rfl, d2, hb4⟩; replace s0_0 := keepc hb4 s0_0 l0; replace s0_1 := keepc hb4 s0_1 l0; replace s0_2 := keepc hb4 s0_2 l0; replace s0_3 := keepc hb4 s0_3 l0; replace s0_4 := keepc hb4 s0_4 l0; replace s1_0 := keepc hb4 s1_0 l1; replace s1_1 := keepc hb4 s1_1 l1; replace s1_2 := keepc hb4 s1_2 l1; replace s1_3 := keepc hb4 s1_3 l1; replace s1_4 := keepc hb4 s1_4 l1; replace t0_0 := keepc hb4 t0_0 l100; replace t0_1 := keepc hb4 t0_1 l100; replace t1_0 := keepc hb4 t1_0 l101; replace t1_1 := keepc hb4 t1_1 l101; replace r0 := keepc hb4 r0 l2; replace f0 := keepf hb4 f0 l2; replace r1 := keepc hb4 r1 l2; replace f1 := keepf hb4 f1 l2; replace r2 := keepc hb4 r2 l2; replace f2 := keepf hb4 f2 l2; replace r3 := keepc hb4 r3 l2; replace f3 := keepf hb4 f3 l2; replace r4 := keepc hb4 r4 l2; replace f4 := keepf hb4 f4 l2; replace l0 := Nat.lt_of_lt_of_le l0 hb4.size; replace l1 := Nat.lt_of_lt_of_le l1 hb4.size; replace l2 := Nat.lt_of_lt_of_le l2 hb4.size; replace l100 := Nat.lt_of_lt_of_le l100 hb4.size; replace l101 := Nat.lt_of_lt_of_le l101 hb4.size; replace hx1 := hx1.to hb4; replace hx2 := hx2.to hb4; replace hx3 := hx3.to hb4; replace hy1 := hy1.to hb4; replace hy2 := hy2.to hb4; replace hy3 := hy3.to hb4; replace hv0 := hv0.to hb4; replace hv1 := hv1.to hb4; replace d1 := d1.to hb4; replace HW := Lib.hid (hstep HW hb4); clear hb4)
    | (go_at_call 37; refine (mul_any (nd x) (nd y) D1 D2 _ (by exact d1) (by exact d2) (by have := HSX.out; unfold sz at this; omega) (by have := HSY.out; unfold sz at this; omega)).mono ?_; rintro e w5 ⟨D3, rfl, d3, hb5⟩; replace s0_0 := keepc hb5 s0_0 l0; replace s0_1 := keepc hb5 s0_1 l0; replace s0_2 := keepc hb5 s0_2 l0; replace s0_3 := keepc hb5 s0_3 l0; replace s0_4 := keepc hb5 s0_4 l0; replace s1_0 := keepc hb5 s1_0 l1; replace s1_1 := keepc hb5 s1_1 l1; replace s1_2 := keepc hb5 s1_2 l1; replace s1_3 := keepc hb5 s1_3 l1; replace s1_4 := keepc hb5 s1_4 l1; replace t0_0 := keepc hb5 t0_0 l100; replace t0_1 := keepc hb5 t0_1 l100; replace t1_0 := keepc hb5 t1_0 l101; replace t1_1 := keepc hb5 t1_1 l101; replace r0 := keepc hb5 r0 l2; replace f0 := keepf hb5 f0 l2; replace r1 := keepc hb5 r1 l2; replace f1 := keepf hb5 f1 l2; replace r2 := keepc hb5 r2 l2; replace f2 := keepf hb5 f2 l2; replace r3 := keepc hb5 r3 l2; replace f3 := keepf hb5 f3 l2; replace r4 := keepc hb5 r4 l2; replace f4 := keepf hb5 f4 l2; replace l0 := Nat.lt_of_lt_of_le l0 hb5.size; replace l1 := Nat.lt_of_lt_of_le l1 hb5.size; replace l2 := Nat.lt_of_lt_of_le l2 hb5.size; replace l100 := Nat.lt_of_lt_of_le l100 hb5.size; replace l101 := Nat.lt_of_lt_of_le l101 hb5.size; replace hx1 := hx1.to hb5; replace hx2 := hx2.to hb5; replace hx3 := hx3.to hb5; replace hy1 := hy1.to hb5; replace hy2 := hy2.to hb5; replace hy3 := hy3.to hb5; replace hv0 := hv0.to hb5; replace hv1 := hv1.to hb5; replace d1 := d1.to hb5; replace d2 := d2.to hb5; replace HW := Lib.hid (hstep HW hb5); clear hb5)
    | (go_at_call 35; refine (over_any (na x * na y + -(nb x * nb y)) (na x * nb y + nb x * na y) (nd x * nd y) V0 V1 D3 _ (by exact hv0) (by exact hv1) (by exact d3) (by have h := (ab_add_ln (K := 274877906944) (ab_mul_ln HSX.out.1 HSY.out.1) (by rw [ab_neg]; exact (ab_mul_ln HSX.out.2.1 HSY.out.2.1))); omega) (by have h := (ab_add_ln (K := 274877906944) (ab_mul_ln HSX.out.1 HSY.out.2.1) (ab_mul_ln HSX.out.2.1 HSY.out.1)); omega) (by have h := (nat_mul_ln HSX.out.2.2 HSY.out.2.2); omega) (Nat.mul_ne_zero (nd_ne0 x) (nd_ne0 y))).mono ?_; rintro e w6 ⟨Z1, Z2, Z3, rfl, h10, hb6⟩; replace s0_0 := keepc hb6 s0_0 l0; replace s0_1 := keepc hb6 s0_1 l0; replace s0_2 := keepc hb6 s0_2 l0; replace s0_3 := keepc hb6 s0_3 l0; replace s0_4 := keepc hb6 s0_4 l0; replace s1_0 := keepc hb6 s1_0 l1; replace s1_1 := keepc hb6 s1_1 l1; replace s1_2 := keepc hb6 s1_2 l1; replace s1_3 := keepc hb6 s1_3 l1; replace s1_4 := keepc hb6 s1_4 l1; replace t0_0 := keepc hb6 t0_0 l100; replace t0_1 := keepc hb6 t0_1 l100; replace t1_0 := keepc hb6 t1_0 l101; replace t1_1 := keepc hb6 t1_1 l101; replace r0 := keepc hb6 r0 l2; replace f0 := keepf hb6 f0 l2; replace r1 := keepc hb6 r1 l2; replace f1 := keepf hb6 f1 l2; replace r2 := keepc hb6 r2 l2; replace f2 := keepf hb6 f2 l2; replace r3 := keepc hb6 r3 l2; replace f3 := keepf hb6 f3 l2; replace r4 := keepc hb6 r4 l2; replace f4 := keepf hb6 f4 l2; replace l0 := Nat.lt_of_lt_of_le l0 hb6.size; replace l1 := Nat.lt_of_lt_of_le l1 hb6.size; replace l2 := Nat.lt_of_lt_of_le l2 hb6.size; replace l100 := Nat.lt_of_lt_of_le l100 hb6.size; replace l101 := Nat.lt_of_lt_of_le l101 hb6.size; replace hx1 := hx1.to hb6; replace hx2 := hx2.to hb6; replace hx3 := hx3.to hb6; replace hy1 := hy1.to hb6; replace hy2 := hy2.to hb6; replace hy3 := hy3.to hb6; replace hv0 := hv0.to hb6; replace hv1 := hv1.to hb6; replace d1 := d1.to hb6; replace d2 := d2.to hb6; replace d3 := d3.to hb6; replace HW := Lib.hid (hstep HW hb6); clear hb6))
  go_wp2_with fail
  exact bodyPost_ret (v := .agg #[.bool (sn (na (fr (na x * na y + -(nb x * nb y)) (na x * nb y + nb x * na y) (nd x * nd y)))), .slice Z1 (ln (ab (na (fr (na x * na y + -(nb x * nb y)) (na x * nb y + nb x * na y) (nd x * nd y))))) (ln (ab (na (fr (na x * na y + -(nb x * nb y)) (na x * nb y + nb x * na y) (nd x * nd y))))), .bool (sn (nb (fr (na x * na y + -(nb x * nb y)) (na x * nb y + nb x * na y) (nd x * nd y)))), .slice Z2 (ln (ab (nb (fr (na x * na y + -(nb x * nb y)) (na x * nb y + nb x * na y) (nd x * nd y))))) (ln (ab (nb (fr (na x * na y + -(nb x * nb y)) (na x * nb y + nb x * na y) (nd x * nd y))))), .slice Z3 (ln (un (fr (na x * na y + -(nb x * nb y)) (na x * nb y + nb x * na y) (nd x * nd y)))) (ln (un (fr (na x * na y + -(nb x * nb y)) (na x * nb y + nb x * na y) (nd x * nd y))))]) (by simp [results, Try.results10, go_sem, r0, r1, r2, r3, r4, f0, f1, f2, f3, f4]) rfl (retNum_fin HW h10 (by omega) r0)
end Go.Proofs.Ytdpjknjlhchmcaa

namespace Go.Proofs.Ytdpjknjlhchmcaa
open Go.RowKit Pl
set_option linter.unusedVariables false
set_option linter.unusedSimpArgs false
instance : DecidableEq Cx := fun x y => decidable_of_iff (x.re = y.re ∧ x.im = y.im) ⟨fun h => Cx.ext' h.1 h.2, fun h => by rw [h]; exact ⟨rfl, rfl⟩⟩
/-- The order of two integers. -/
def cmpZ (a b : Int) : Int := if a < b then -1 else if a = b then 0 else 1
theorem cmpZ_lt {a b : Int} (h : a < b) : cmpZ a b = -1 := by unfold cmpZ; rw [if_pos h]
theorem cmpZ_eq {a b : Int} (h : a = b) : cmpZ a b = 0 := by unfold cmpZ; rw [if_neg (by omega), if_pos h]
theorem cmpZ_gt {a b : Int} (h : b < a) : cmpZ a b = 1 := by unfold cmpZ; rw [if_neg (by omega), if_neg (by omega)]
/-- 'over(re, whole{}, d)'. -/
theorem over0_any (a : Int) (d : Nat) (A D : Option Addr) (w : World) (hx : Nat32 w A (ab a)) (hd : Nat32 w D d) (hbx : ln (ab a) ≤ 1099511627776) (hbd : ln d ≤ 1099511627776) (hd0 : d ≠ 0) :
    Calls Try.prog 35 #[.agg #[.bool (sn (a)), .slice A (ln (ab (a))) (ln (ab (a)))], .agg #[.bool false, .slice none 0 0], .slice D (ln d) (ln d)] w (RetNum w (fr a 0 d)) := by
  have h := over_any a 0 d A none D w hx (fun e => absurd rfl e) hd hbx (by rw [show ab 0 = 0 from rfl, ln_zero]; omega) hbd hd0
  rw [show ab 0 = 0 from rfl, ln_zero, sn_zero] at h
  exact h
set_option maxHeartbeats 4000000 in
theorem sub_num (x y : Cx) (A1 A2 A3 B1 B2 B3 : Option Addr) (w : World) (hx : Num3 w A1 A2 A3 x) (hy : Num3 w B1 B2 B3 y) (hsx : sz 137438953472 x) (hsy : sz 137438953472 y) :
    Calls Try.prog 47 #[.agg #[.bool (sn (na x)), .slice A1 (ln (ab (na x))) (ln (ab (na x))), .bool (sn (nb x)), .slice A2 (ln (ab (nb x))) (ln (ab (nb x))), .slice A3 (ln (un x)) (ln (un x))], .agg #[.bool (sn (na y)), .slice B1 (ln (ab (na y))) (ln (ab (na y))), .bool (sn (nb y)), .slice B2 (ln (ab (nb y))) (ln (ab (nb y))), .slice B3 (ln (un y)) (ln (un y))]] w (RetNum w (x.sub y)) := by
  obtain ⟨hx1, hx2, hx3⟩ := hx
  obtain ⟨hy1, hy2, hy3⟩ := hy
  have HSX := Lib.hid hsx
  have HSY := Lib.hid (sz_neg hsy)
  clear hsx hsy
  have hd : x.sub y = x.add y.neg := rfl
  rw [hd]
  clear hd
  go_enter Try.func47, Try.ntmps47
  go_wp2_with fail
  obtain ⟨W, hW⟩ : ∃ W : World, W = (((w.alloc (.cells #[.bool (sn (na x)), .slice A1 (ln (ab (na x))) (ln (ab (na x))), .bool (sn (nb x)), .slice A2 (ln (ab (nb x))) (ln (ab (nb x))), .slice A3 (ln (un x)) (ln (un x))] 34)).alloc (.cells #[.bool (sn (na y)), .slice B1 (ln (ab (na y))) (ln (ab (na y))), .bool (sn (nb y)), .slice B2 (ln (ab (nb y))) (ln (ab (nb y))), .slice B3 (ln (un y)) (ln (un y))] 34)).alloc (.cells #[.bool false, .slice none 0 0, .bool false, .slice none 0 0, .slice none 0 0] 34)) := ⟨_, rfl⟩
  have s0_0 : W.cell? ⟨w.heap.size, 0, none⟩ = some (.bool (sn (na x))) := by subst hW; go_simp
  have s0_1 : W.cell? ⟨w.heap.size, 1, none⟩ = some (.slice A1 (ln (ab (na x))) (ln (ab (na x)))) := by subst hW; go_simp
  have s0_2 : W.cell? ⟨w.heap.size, 2, none⟩ = some (.bool (sn (nb x))) := by subst hW; go_simp
  have s0_3 : W.cell? ⟨w.heap.size, 3, none⟩ = some (.slice A2 (ln (ab (nb x))) (ln (ab (nb x)))) := by subst hW; go_simp
  have s0_4 : W.cell? ⟨w.heap.size, 4, none⟩ = some (.slice A3 (ln (un x)) (ln (un x))) := by subst hW; go_simp
  have s1_0 : W.cell? ⟨w.heap.size + 1, 0, none⟩ = some (.bool (sn (na y))) := by subst hW; go_simp
  have s1_1 : W.cell? ⟨w.heap.size + 1, 1, none⟩ = some (.slice B1 (ln (ab (na y))) (ln (ab (na y)))) := by subst hW; go_simp
  have s1_2 : W.cell? ⟨w.heap.size + 1, 2, none⟩ = some (.bool (sn (nb y))) := by subst hW; go_simp
  have s1_3 : W.cell? ⟨w.heap.size + 1, 3, none⟩ = some (.slice B2 (ln (ab (nb y))) (ln (ab (nb y)))) := by subst hW; go_simp
  have s1_4 : W.cell? ⟨w.heap.size + 1, 4, none⟩ = some (.slice B3 (ln (un y)) (ln (un y))) := by subst hW; go_simp
  have r0 : W.cell? ⟨w.heap.size + 1 + 1, 0, none⟩ = some (.bool false) := by subst hW; go_simp
  have f0 : W.frozen? ⟨w.heap.size + 1 + 1, 0, none⟩ = false := by subst hW; go_simp
  have r1 : W.cell? ⟨w.heap.size + 1 + 1, 1, none⟩ = some (.slice none 0 0) := by subst hW; go_simp
  have f1 : W.frozen? ⟨w.heap.size + 1 + 1, 1, none⟩ = false := by subst hW; go_simp
  have r2 : W.cell? ⟨w.heap.size + 1 + 1, 2, none⟩ = some (.bool false) := by subst hW; go_simp
  have f2 : W.frozen? ⟨w.heap.size + 1 + 1, 2, none⟩ = false := by subst hW; go_simp
  have r3 : W.cell? ⟨w.heap.size + 1 + 1, 3, none⟩ = some (.slice none 0 0) := by subst hW; go_simp
  have f3 : W.frozen? ⟨w.heap.size + 1 + 1, 3, none⟩ = false := by subst hW; go_simp
  have r4 : W.cell? ⟨w.heap.size + 1 + 1, 4, none⟩ = some (.slice none 0 0) := by subst hW; go_simp
  have f4 : W.frozen? ⟨w.heap.size + 1 + 1, 4, none⟩ = false := by subst hW; go_simp
  have HW : Below w.heap.size w W := by subst hW; exact ((((Below.refl w.heap.size w).alloc (Nat.le_refl _) _).alloc (by simp) _).alloc (by simp; omega) _)
  have l0 : w.heap.size < W.heap.size := by subst hW; simp <;> omega
  have l1 : w.heap.size + 1 < W.heap.size := by subst hW; simp <;> omega
  have l2 : w.heap.size + 1 + 1 < W.heap.size := by subst hW; simp
  have n0 : w.heap.size ≠ w.heap.size + 1 + 1 := by omega
  have n1 : w.heap.size + 1 ≠ w.heap.size + 1 + 1 := by omega
  replace hx1 := hx1.to HW
  replace hx2 := hx2.to HW
  replace hx3 := hx3.to HW
  replace hy1 := hy1.to HW
  replace hy2 := hy2.to HW
  replace hy3 := hy3.to HW
  rw [← hW]
  clear hW
  replace HW := Lib.hid HW
  go_region_held3 (fun w' => w'.cell? ⟨w.heap.size, 0, none⟩ = some (.bool (sn (na x))) ∧ w'.cell? ⟨w.heap.size, 1, none⟩ = some (.slice A1 (ln (ab (na x))) (ln (ab (na x)))) ∧ w'.cell? ⟨w.heap.size, 2, none⟩ = some (.bool (sn (nb x))) ∧ w'.cell? ⟨w.heap.size, 3, none⟩ = some (.slice A2 (ln (ab (nb x))) (ln (ab (nb x)))) ∧ w'.cell? ⟨w.heap.size, 4, none⟩ = some (.slice A3 (ln (un x)) (ln (un x))) ∧ w'.cell? ⟨w.heap.size + 1, 0, none⟩ = some (.bool (sn (na y))) ∧ w'.cell? ⟨w.heap.size + 1, 1, none⟩ = some (.slice B1 (ln (ab (na y))) (ln (ab (na y)))) ∧ w'.cell? ⟨w.heap.size + 1, 2, none⟩ = some (.bool (sn (nb y))) ∧ w'.cell? ⟨w.heap.size + 1, 3, none⟩ = some (.slice B2 (ln (ab (nb y))) (ln (ab (nb y)))) ∧ w'.cell? ⟨w.heap.size + 1, 4, none⟩ = some (.slice B3 (ln (un y)) (ln (un y)))) (first | with_reducible exact ⟨s0_0, s0_1, s0_2, s0_3, s0_4, s1_0, s1_1, s1_2, s1_3, s1_4⟩ | with_reducible exact ⟨(keeps (keeps (keeps (keeps (keeps s0_0 n0) n0) n0) n0) n0), (keeps (keeps (keeps (keeps (keeps s0_1 n0) n0) n0) n0) n0), (keeps (keeps (keeps (keeps (keeps s0_2 n0) n0) n0) n0) n0), (keeps (keeps (keeps (keeps (keeps s0_3 n0) n0) n0) n0) n0), (keeps (keeps (keeps (keeps (keeps s0_4 n0) n0) n0) n0) n0), (keeps (keeps (keeps (keeps (keeps s1_0 n1) n1) n1) n1) n1), (keeps (keeps (keeps (keeps (keeps s1_1 n1) n1) n1) n1) n1), (keeps (keeps (keeps (keeps (keeps s1_2 n1) n1) n1) n1) n1), (keeps (keeps (keeps (keeps (keeps s1_3 n1) n1) n1) n1) n1), (keeps (keeps (keeps (keeps (keeps s1_4 n1) n1) n1) n1) n1)⟩ | exact ⟨s0_0, s0_1, s0_2, s0_3, s0_4, s1_0, s1_1, s1_2, s1_3, s1_4⟩) (first
    | (go_at_call 14; refine (neg_any y B1 B2 B3 _ (by exact num3_mk hy1 hy2 hy3)).mono ?_; rintro e w1 ⟨M1, M2, M3, rfl, h1, hb1⟩; have hb1 := undrew hb1; replace s0_0 := keepc hb1 s0_0 l0; replace s0_1 := keepc hb1 s0_1 l0; replace s0_2 := keepc hb1 s0_2 l0; replace s0_3 := keepc hb1 s0_3 l0; replace s0_4 := keepc hb1 s0_4 l0; replace s1_0 := keepc hb1 s1_0 l1; replace s1_1 := keepc hb1 s1_1 l1; replace s1_2 := keepc hb1 s1_2 l1; replace s1_3 := keepc hb1 s1_3 l1; replace s1_4 := keepc hb1 s1_4 l1; replace r0 := keepc hb1 r0 l2; replace f0 := keepf hb1 f0 l2; replace r1 := keepc hb1 r1 l2; replace f1 := keepf hb1 f1 l2; replace r2 := keepc hb1 r2 l2; replace f2 := keepf hb1 f2 l2; replace r3 := keepc hb1 r3 l2; replace f3 := keepf hb1 f3 l2; replace r4 := keepc hb1 r4 l2; replace f4 := keepf hb1 f4 l2; replace l0 := Nat.lt_of_lt_of_le l0 hb1.size; replace l1 := Nat.lt_of_lt_of_le l1 hb1.size; replace l2 := Nat.lt_of_lt_of_le l2 hb1.size; replace hx1 := hx1.to hb1; replace hx2 := hx2.to hb1; replace hx3 := hx3.to hb1; replace hy1 := hy1.to hb1; replace hy2 := hy2.to hb1; replace hy3 := hy3.to hb1; replace HW := Lib.hid (hstep HW hb1); clear hb1)
    | (go_at_call 22; refine (add_num x y.neg A1 A2 A3 M1 M2 M3 _ (by exact num3_mk hx1 hx2 hx3) (by exact h1) HSX.out HSY.out).mono ?_; rintro e w2 ⟨Z1, Z2, Z3, rfl, h2, hb2⟩; replace s0_0 := keepc hb2 s0_0 l0; replace s0_1 := keepc hb2 s0_1 l0; replace s0_2 := keepc hb2 s0_2 l0; replace s0_3 := keepc hb2 s0_3 l0; replace s0_4 := keepc hb2 s0_4 l0; replace s1_0 := keepc hb2 s1_0 l1; replace s1_1 := keepc hb2 s1_1 l1; replace s1_2 := keepc hb2 s1_2 l1; replace s1_3 := keepc hb2 s1_3 l1; replace s1_4 := keepc hb2 s1_4 l1; replace r0 := keepc hb2 r0 l2; replace f0 := keepf hb2 f0 l2; replace r1 := keepc hb2 r1 l2; replace f1 := keepf hb2 f1 l2; replace r2 := keepc hb2 r2 l2; replace f2 := keepf hb2 f2 l2; replace r3 := keepc hb2 r3 l2; replace f3 := keepf hb2 f3 l2; replace r4 := keepc hb2 r4 l2; replace f4 := keepf hb2 f4 l2; replace l0 := Nat.lt_of_lt_of_le l0 hb2.size; replace l1 := Nat.lt_of_lt_of_le l1 hb2.size; replace l2 := Nat.lt_of_lt_of_le l2 hb2.size; replace hx1 := hx1.to hb2; replace hx2 := hx2.to hb2; replace hx3 := hx3.to hb2; replace hy1 := hy1.to hb2; replace hy2 := hy2.to hb2; replace hy3 := hy3.to hb2; replace h1 := h1.to hb2; replace HW := Lib.hid (hstep HW hb2); clear hb2))
  go_wp2_with fail
  exact bodyPost_ret (v := .agg #[.bool (sn (na (x.add y.neg))), .slice Z1 (ln (ab (na (x.add y.neg)))) (ln (ab (na (x.add y.neg)))), .bool (sn (nb (x.add y.neg))), .slice Z2 (ln (ab (nb (x.add y.neg)))) (ln (ab (nb (x.add y.neg)))), .slice Z3 (ln (un (x.add y.neg))) (ln (un (x.add y.neg)))]) (by simp [results, Try.results47, go_sem, r0, r1, r2, r3, r4, f0, f1, f2, f3, f4]) rfl (retNum_fin HW h2 (by omega) r0)
set_option maxHeartbeats 4000000 in
theorem norm_num (x : Cx) (A1 A2 A3 : Option Addr) (w : World) (hx : Num3 w A1 A2 A3 x) (hsx : sz 137438953472 x) :
    Calls Try.prog 42 #[.agg #[.bool (sn (na x)), .slice A1 (ln (ab (na x))) (ln (ab (na x))), .bool (sn (nb x)), .slice A2 (ln (ab (nb x))) (ln (ab (nb x))), .slice A3 (ln (un x)) (ln (un x))]] w (RetNum w x.norm) := by
  obtain ⟨hx1, hx2, hx3⟩ := hx
  have HSX := Lib.hid hsx
  clear hsx
  rw [← norm_fr]
  go_enter Try.func42, Try.ntmps42
  go_wp2_with fail
  obtain ⟨W, hW⟩ : ∃ W : World, W = ((w.alloc (.cells #[.bool (sn (na x)), .slice A1 (ln (ab (na x))) (ln (ab (na x))), .bool (sn (nb x)), .slice A2 (ln (ab (nb x))) (ln (ab (nb x))), .slice A3 (ln (un x)) (ln (un x))] 34)).alloc (.cells #[.bool false, .slice none 0 0, .bool false, .slice none 0 0, .slice none 0 0] 34)) := ⟨_, rfl⟩
  have s0_0 : W.cell? ⟨w.heap.size, 0, none⟩ = some (.bool (sn (na x))) := by subst hW; go_simp
  have s0_1 : W.cell? ⟨w.heap.size, 1, none⟩ = some (.slice A1 (ln (ab (na x))) (ln (ab (na x)))) := by subst hW; go_simp
  have s0_2 : W.cell? ⟨w.heap.size, 2, none⟩ = some (.bool (sn (nb x))) := by subst hW; go_simp
  have s0_3 : W.cell? ⟨w.heap.size, 3, none⟩ = some (.slice A2 (ln (ab (nb x))) (ln (ab (nb x)))) := by subst hW; go_simp
  have s0_4 : W.cell? ⟨w.heap.size, 4, none⟩ = some (.slice A3 (ln (un x)) (ln (un x))) := by subst hW; go_simp
  have r0 : W.cell? ⟨w.heap.size + 1, 0, none⟩ = some (.bool false) := by subst hW; go_simp
  have f0 : W.frozen? ⟨w.heap.size + 1, 0, none⟩ = false := by subst hW; go_simp
  have r1 : W.cell? ⟨w.heap.size + 1, 1, none⟩ = some (.slice none 0 0) := by subst hW; go_simp
  have f1 : W.frozen? ⟨w.heap.size + 1, 1, none⟩ = false := by subst hW; go_simp
  have r2 : W.cell? ⟨w.heap.size + 1, 2, none⟩ = some (.bool false) := by subst hW; go_simp
  have f2 : W.frozen? ⟨w.heap.size + 1, 2, none⟩ = false := by subst hW; go_simp
  have r3 : W.cell? ⟨w.heap.size + 1, 3, none⟩ = some (.slice none 0 0) := by subst hW; go_simp
  have f3 : W.frozen? ⟨w.heap.size + 1, 3, none⟩ = false := by subst hW; go_simp
  have r4 : W.cell? ⟨w.heap.size + 1, 4, none⟩ = some (.slice none 0 0) := by subst hW; go_simp
  have f4 : W.frozen? ⟨w.heap.size + 1, 4, none⟩ = false := by subst hW; go_simp
  have HW : Below w.heap.size w W := by subst hW; exact (((Below.refl w.heap.size w).alloc (Nat.le_refl _) _).alloc (by simp) _)
  have l0 : w.heap.size < W.heap.size := by subst hW; simp <;> omega
  have l1 : w.heap.size + 1 < W.heap.size := by subst hW; simp
  have n0 : w.heap.size ≠ w.heap.size + 1 := by omega
  replace hx1 := hx1.to HW
  replace hx2 := hx2.to HW
  replace hx3 := hx3.to HW
  rw [← hW]
  clear hW
  replace HW := Lib.hid HW
  go_region_held3 (fun w' => w'.cell? ⟨w.heap.size, 0, none⟩ = some (.bool (sn (na x))) ∧ w'.cell? ⟨w.heap.size, 1, none⟩ = some (.slice A1 (ln (ab (na x))) (ln (ab (na x)))) ∧ w'.cell? ⟨w.heap.size, 2, none⟩ = some (.bool (sn (nb x))) ∧ w'.cell? ⟨w.heap.size, 3, none⟩ = some (.slice A2 (ln (ab (nb x))) (ln (ab (nb x)))) ∧ w'.cell? ⟨w.heap.size, 4, none⟩ = some (.slice A3 (ln (un x)) (ln (un x)))) (first | with_reducible exact ⟨s0_0, s0_1, s0_2, s0_3, s0_4⟩ | with_reducible exact ⟨(keeps (keeps (keeps (keeps (keeps s0_0 n0) n0) n0) n0) n0), (keeps (keeps (keeps (keeps (keeps s0_1 n0) n0) n0) n0) n0), (keeps (keeps (keeps (keeps (keeps s0_2 n0) n0) n0) n0) n0), (keeps (keeps (keeps (keeps (keeps s0_3 n0) n0) n0) n0) n0), (keeps (keeps (keeps (keeps (keeps s0_4 n0) n0) n0) n0) n0)⟩ | exact ⟨s0_0, s0_1, s0_2, s0_3, s0_4⟩) (first
    | (have _ := h4; go_at_call 36; refine (den_any x A1 A2 A3 _ (by exact num3_mk hx1 hx2 hx3)).mono ?_; rintro e w5 ⟨D5, rfl, h5, hb5⟩; replace s0_0 := keepc hb5 s0_0 l0; replace s0_1 := keepc hb5 s0_1 l0; replace s0_2 := keepc hb5 s0_2 l0; replace s0_3 := keepc hb5 s0_3 l0; replace s0_4 := keepc hb5 s0_4 l0; replace r0 := keepc hb5 r0 l1; replace f0 := keepf hb5 f0 l1; replace r1 := keepc hb5 r1 l1; replace f1 := keepf hb5 f1 l1; replace r2 := keepc hb5 r2 l1; replace f2 := keepf hb5 f2 l1; replace r3 := keepc hb5 r3 l1; replace f3 := keepf hb5 f3 l1; replace r4 := keepc hb5 r4 l1; replace f4 := keepf hb5 f4 l1; replace l0 := Nat.lt_of_lt_of_le l0 hb5.size; replace l1 := Nat.lt_of_lt_of_le l1 hb5.size; replace hx1 := hx1.to hb5; replace hx2 := hx2.to hb5; replace hx3 := hx3.to hb5; replace h1 := h1.to hb5; replace h2 := h2.to hb5; replace h3 := h3.to hb5; replace h4 := h4.to hb5; replace HW := Lib.hid (hstep HW hb5); clear hb5)
    | (go_at_call_of 32 (Value.slice A1 (ln (ab (na x))) (ln (ab (na x)))); refine (times_any (na x) (na x) A1 A1 _ (by exact hx1) (by exact hx1) (by have := HSX.out; unfold sz at this; omega) (by have := HSX.out; unfold sz at this; omega)).mono ?_; rintro e w1 ⟨S1, rfl, h1, hb1⟩; have hb1 := undrew hb1; replace s0_0 := keepc hb1 s0_0 l0; replace s0_1 := keepc hb1 s0_1 l0; replace s0_2 := keepc hb1 s0_2 l0; replace s0_3 := keepc hb1 s0_3 l0; replace s0_4 := keepc hb1 s0_4 l0; replace r0 := keepc hb1 r0 l1; replace f0 := keepf hb1 f0 l1; replace r1 := keepc hb1 r1 l1; replace f1 := keepf hb1 f1 l1; replace r2 := keepc hb1 r2 l1; replace f2 := keepf hb1 f2 l1; replace r3 := keepc hb1 r3 l1; replace f3 := keepf hb1 f3 l1; replace r4 := keepc hb1 r4 l1; replace f4 := keepf hb1 f4 l1; replace l0 := Nat.lt_of_lt_of_le l0 hb1.size; replace l1 := Nat.lt_of_lt_of_le l1 hb1.size; replace hx1 := hx1.to hb1; replace hx2 := hx2.to hb1; replace hx3 := hx3.to hb1; replace HW := Lib.hid (hstep HW hb1); clear hb1)
    | (go_at_call_of 32 (Value.slice A2 (ln (ab (nb x))) (ln (ab (nb x)))); refine (times_any (nb x) (nb x) A2 A2 _ (by exact hx2) (by exact hx2) (by have := HSX.out; unfold sz at this; omega) (by have := HSX.out; unfold sz at this; omega)).mono ?_; rintro e w2 ⟨S2, rfl, h2, hb2⟩; replace s0_0 := keepc hb2 s0_0 l0; replace s0_1 := keepc hb2 s0_1 l0; replace s0_2 := keepc hb2 s0_2 l0; replace s0_3 := keepc hb2 s0_3 l0; replace s0_4 := keepc hb2 s0_4 l0; replace r0 := keepc hb2 r0 l1; replace f0 := keepf hb2 f0 l1; replace r1 := keepc hb2 r1 l1; replace f1 := keepf hb2 f1 l1; replace r2 := keepc hb2 r2 l1; replace f2 := keepf hb2 f2 l1; replace r3 := keepc hb2 r3 l1; replace f3 := keepf hb2 f3 l1; replace r4 := keepc hb2 r4 l1; replace f4 := keepf hb2 f4 l1; replace l0 := Nat.lt_of_lt_of_le l0 hb2.size; replace l1 := Nat.lt_of_lt_of_le l1 hb2.size; replace hx1 := hx1.to hb2; replace hx2 := hx2.to hb2; replace hx3 := hx3.to hb2; replace h1 := h1.to hb2; replace HW := Lib.hid (hstep HW hb2); clear hb2)
    | (go_at_call 33; refine (plus_any (na x * na x) (nb x * nb x) S1 S2 _ (by exact h1) (by exact h2) (by have h := (ab_mul_ln HSX.out.1 HSX.out.1); omega) (by have h := (ab_mul_ln HSX.out.2.1 HSX.out.2.1); omega)).mono ?_; rintro e w3 ⟨S3, rfl, h3, hb3⟩; replace s0_0 := keepc hb3 s0_0 l0; replace s0_1 := keepc hb3 s0_1 l0; replace s0_2 := keepc hb3 s0_2 l0; replace s0_3 := keepc hb3 s0_3 l0; replace s0_4 := keepc hb3 s0_4 l0; replace r0 := keepc hb3 r0 l1; replace f0 := keepf hb3 f0 l1; replace r1 := keepc hb3 r1 l1; replace f1 := keepf hb3 f1 l1; replace r2 := keepc hb3 r2 l1; replace f2 := keepf hb3 f2 l1; replace r3 := keepc hb3 r3 l1; replace f3 := keepf hb3 f3 l1; replace r4 := keepc hb3 r4 l1; replace f4 := keepf hb3 f4 l1; replace l0 := Nat.lt_of_lt_of_le l0 hb3.size; replace l1 := Nat.lt_of_lt_of_le l1 hb3.size; replace hx1 := hx1.to hb3; replace hx2 := hx2.to hb3; replace hx3 := hx3.to hb3; replace h1 := h1.to hb3; replace h2 := h2.to hb3; replace HW := Lib.hid (hstep HW hb3); clear hb3)
    | (go_at_call 36; refine (den_any x A1 A2 A3 _ (by exact num3_mk hx1 hx2 hx3)).mono ?_; rintro e w4 ⟨D4, rfl, h4, hb4⟩; replace s0_0 := keepc hb4 s0_0 l0; replace s0_1 := keepc hb4 s0_1 l0; replace s0_2 := keepc hb4 s0_2 l0; replace s0_3 := keepc hb4 s0_3 l0; replace s0_4 := keepc hb4 s0_4 l0; replace r0 := keepc hb4 r0 l1; replace f0 := keepf hb4 f0 l1; replace r1 := keepc hb4 r1 l1; replace f1 := keepf hb4 f1 l1; replace r2 := keepc hb4 r2 l1; replace f2 := keepf hb4 f2 l1; replace r3 := keepc hb4 r3 l1; replace f3 := keepf hb4 f3 l1; replace r4 := keepc hb4 r4 l1; replace f4 := keepf hb4 f4 l1; replace l0 := Nat.lt_of_lt_of_le l0 hb4.size; replace l1 := Nat.lt_of_lt_of_le l1 hb4.size; replace hx1 := hx1.to hb4; replace hx2 := hx2.to hb4; replace hx3 := hx3.to hb4; replace h1 := h1.to hb4; replace h2 := h2.to hb4; replace h3 := h3.to hb4; replace HW := Lib.hid (hstep HW hb4); clear hb4)
    | (go_at_call 37; refine (mul_any (nd x) (nd x) D4 D5 _ (by exact h4) (by exact h5) (by have := HSX.out; unfold sz at this; omega) (by have := HSX.out; unfold sz at this; omega)).mono ?_; rintro e w6 ⟨S6, rfl, h6, hb6⟩; replace s0_0 := keepc hb6 s0_0 l0; replace s0_1 := keepc hb6 s0_1 l0; replace s0_2 := keepc hb6 s0_2 l0; replace s0_3 := keepc hb6 s0_3 l0; replace s0_4 := keepc hb6 s0_4 l0; replace r0 := keepc hb6 r0 l1; replace f0 := keepf hb6 f0 l1; replace r1 := keepc hb6 r1 l1; replace f1 := keepf hb6 f1 l1; replace r2 := keepc hb6 r2 l1; replace f2 := keepf hb6 f2 l1; replace r3 := keepc hb6 r3 l1; replace f3 := keepf hb6 f3 l1; replace r4 := keepc hb6 r4 l1; replace f4 := keepf hb6 f4 l1; replace l0 := Nat.lt_of_lt_of_le l0 hb6.size; replace l1 := Nat.lt_of_lt_of_le l1 hb6.size; replace hx1 := hx1.to hb6; replace hx2 := hx2.to hb6; replace hx3 := hx3.to hb6; replace h1 := h1.to hb6; replace h2 := h2.to hb6; replace h3 := h3.to hb6; replace h4 := h4.to hb6; replace h5 := h5.to hb6; replace HW := Lib.hid (hstep HW hb6); clear hb6)
    | (go_at_call 35; refine (over0_any (na x * na x + nb x * nb x) (nd x * nd x) S3 S6 _ (by exact h3) (by exact h6) (by have h := (ab_add_ln (K := 274877906944) (ab_mul_ln HSX.out.1 HSX.out.1) (ab_mul_ln HSX.out.2.1 HSX.out.2.1)); omega) (by have h := (nat_mul_ln HSX.out.2.2 HSX.out.2.2); omega) (Nat.mul_ne_zero (nd_ne0 x) (nd_ne0 x))).mono ?_; rintro e w7 ⟨Z1, Z2, Z3, rfl, h7, hb7⟩; replace s0_0 := keepc hb7 s0_0 l0; replace s0_1 := keepc hb7 s0_1 l0; replace s0_2 := keepc hb7 s0_2 l0; replace s0_3 := keepc hb7 s0_3 l0; replace s0_4 := keepc hb7 s0_4 l0; replace r0 := keepc hb7 r0 l1; replace f0 := keepf hb7 f0 l1; replace r1 := keepc hb7 r1 l1; replace f1 := keepf hb7 f1 l1; replace r2 := keepc hb7 r2 l1; replace f2 := keepf hb7 f2 l1; replace r3 := keepc hb7 r3 l1; replace f3 := keepf hb7 f3 l1; replace r4 := keepc hb7 r4 l1; replace f4 := keepf hb7 f4 l1; replace l0 := Nat.lt_of_lt_of_le l0 hb7.size; replace l1 := Nat.lt_of_lt_of_le l1 hb7.size; replace hx1 := hx1.to hb7; replace hx2 := hx2.to hb7; replace hx3 := hx3.to hb7; replace h1 := h1.to hb7; replace h2 := h2.to hb7; replace h3 := h3.to hb7; replace h4 := h4.to hb7; replace h5 := h5.to hb7; replace h6 := h6.to hb7; replace HW := Lib.hid (hstep HW hb7); clear hb7))
  go_wp2_with fail
  exact bodyPost_ret (v := .agg #[.bool (sn (na (fr (na x * na x + nb x * nb x) 0 (nd x * nd x)))), .slice Z1 (ln (ab (na (fr (na x * na x + nb x * nb x) 0 (nd x * nd x))))) (ln (ab (na (fr (na x * na x + nb x * nb x) 0 (nd x * nd x))))), .bool (sn (nb (fr (na x * na x + nb x * nb x) 0 (nd x * nd x)))), .slice Z2 (ln (ab (nb (fr (na x * na x + nb x * nb x) 0 (nd x * nd x))))) (ln (ab (nb (fr (na x * na x + nb x * nb x) 0 (nd x * nd x))))), .slice Z3 (ln (un (fr (na x * na x + nb x * nb x) 0 (nd x * nd x)))) (ln (un (fr (na x * na x + nb x * nb x) 0 (nd x * nd x))))]) (by simp [results, Try.results42, go_sem, r0, r1, r2, r3, r4, f0, f1, f2, f3, f4]) rfl (retNum_fin HW h7 (by omega) r0)
theorem ln_eq0 {n : Nat} (h : ln n = 0) : n = 0 := by
  rcases Nat.eq_zero_or_pos n with h1 | h1
  · exact h1
  · have := ln_pos (n := n) (by omega); omega
set_option maxHeartbeats 1000000 in
/-- 'x.Real()'. -/
theorem real_any (x : Cx) (A1 A2 A3 : Option Addr) (w : World) (hx : Num3 w A1 A2 A3 x) :
    Calls Try.prog 64 #[.agg #[.bool (sn (na x)), .slice A1 (ln (ab (na x))) (ln (ab (na x))), .bool (sn (nb x)), .slice A2 (ln (ab (nb x))) (ln (ab (nb x))), .slice A3 (ln (un x)) (ln (un x))]] w (RetBool w (decide (nb x = 0))) := by
  have e : decide (nb x = 0) = ((ln (ab (nb x)) : Int) == 0) := by
    rw [Bool.eq_iff_iff]; simp only [decide_eq_true_eq, beq_iff_eq]
    constructor
    · intro h; rw [h, show ab 0 = 0 from rfl, ln_zero]; rfl
    · intro h; have := ln_eq0 (n := ab (nb x)) (by omega); unfold ab at this; omega
  rw [e]
  clear e
  go_enter Try.func64, Try.ntmps64
  go_wp2_with fail
  go_ret
  exact ⟨rfl, (Below.refl _ _).alloc (Nat.le_refl _) _⟩
theorem clear_eq (x : Cx) : (!decide (x = Cx.zero)) = decide ((0 : Int) < (ln (ab (na x)) : Int) + (ln (ab (nb x)) : Int)) := by
  rw [Bool.eq_iff_iff]; simp only [decide_eq_true_eq, Bool.not_eq_true', decide_eq_false_iff_not, ← zero_iff]
  constructor
  · intro h
    rcases Nat.eq_zero_or_pos (ln (ab (na x)) + ln (ab (nb x))) with h1 | h1
    · have h2 := ln_eq0 (n := ab (na x)) (by omega); have h3 := ln_eq0 (n := ab (nb x)) (by omega)
      unfold ab at h2 h3; exact absurd ⟨by omega, by omega⟩ h
    · omega
  · rintro h ⟨h1, h2⟩
    rw [h1, h2, show ab 0 = 0 from rfl, ln_zero] at h; omega
set_option maxHeartbeats 1000000 in
/-- 'x.Clear()'. -/
theorem clear_any (x : Cx) (A1 A2 A3 : Option Addr) (w : World) (hx : Num3 w A1 A2 A3 x) (hsx : sz 1099511627776 x) :
    Calls Try.prog 17 #[.agg #[.bool (sn (na x)), .slice A1 (ln (ab (na x))) (ln (ab (na x))), .bool (sn (nb x)), .slice A2 (ln (ab (nb x))) (ln (ab (nb x))), .slice A3 (ln (un x)) (ln (un x))]] w (RetBool w (!decide (x = Cx.zero))) := by
  have h1 : ln (ab (na x)) ≤ 1099511627776 := hsx.1
  have h2 : ln (ab (nb x)) ≤ 1099511627776 := hsx.2.1
  rw [clear_eq]
  clear hsx
  go_enter Try.func17, Try.ntmps17
  go_wp2_with fail
  go_ret
  refine ⟨?_, (Below.refl _ _).alloc (Nat.le_refl _) _⟩
  rfl
set_option maxHeartbeats 4000000 in
theorem wcmp_lt (a b : Int) (A B : Option Addr) (w : World) (hx : Nat32 w A (ab a)) (hy : Nat32 w B (ab b)) (hbx : ln (ab a) ≤ 549755813888) (hby : ln (ab b) ≤ 549755813888) (h : a < b) :
    Calls Try.prog 38 #[.agg #[.bool (sn (a)), .slice A (ln (ab (a))) (ln (ab (a)))], .agg #[.bool (sn (b)), .slice B (ln (ab (b))) (ln (ab (b)))]] w (RetInt w (-1)) := by
  have HX := Lib.hid hbx
  have HY := Lib.hid hby
  clear hbx hby
  have T : Hid (sn (a + -b) = true) := Lib.hid (by unfold sn; rw [decide_eq_true_eq]; omega)
  clear h
  go_enter Try.func38, Try.ntmps38
  go_wp2_with fail
  obtain ⟨W, hW⟩ : ∃ W : World, W = ((w.alloc (.cells #[.bool (sn (a)), .slice A (ln (ab (a))) (ln (ab (a)))] 32)).alloc (.cells #[.bool (sn (b)), .slice B (ln (ab (b))) (ln (ab (b)))] 32)) := ⟨_, rfl⟩
  have s0_0 : W.cell? ⟨w.heap.size, 0, none⟩ = some (.bool (sn (a))) := by subst hW; go_simp
  have s0_1 : W.cell? ⟨w.heap.size, 1, none⟩ = some (.slice A (ln (ab (a))) (ln (ab (a)))) := by subst hW; go_simp
  have s1_0 : W.cell? ⟨w.heap.size + 1, 0, none⟩ = some (.bool (sn (b))) := by subst hW; go_simp
  have s1_1 : W.cell? ⟨w.heap.size + 1, 1, none⟩ = some (.slice B (ln (ab (b))) (ln (ab (b)))) := by subst hW; go_simp
  have HW : Below w.heap.size w W := by subst hW; exact (((Below.refl w.heap.size w).alloc (Nat.le_refl _) _).alloc (by simp) _)
  have l0 : w.heap.size < W.heap.size := by subst hW; simp <;> omega
  have l1 : w.heap.size + 1 < W.heap.size := by subst hW; simp
  replace hx := hx.to HW
  replace hy := hy.to HW
  rw [← hW]
  clear hW
  replace HW := Lib.hid HW
  go_upto_region 1 with fail
  go_cut [5] (fun p wx => VarWhole W (a + -b) p wx)
  case first =>
    have gB : Hid (Below W.heap.size W W) := Lib.hid (Below.refl _ _)
    go_region_held3 (fun w' => w'.cell? ⟨w.heap.size, 0, none⟩ = some (.bool (sn (a))) ∧ w'.cell? ⟨w.heap.size, 1, none⟩ = some (.slice A (ln (ab (a))) (ln (ab (a)))) ∧ w'.cell? ⟨w.heap.size + 1, 0, none⟩ = some (.bool (sn (b))) ∧ w'.cell? ⟨w.heap.size + 1, 1, none⟩ = some (.slice B (ln (ab (b))) (ln (ab (b))))) (first | with_reducible exact ⟨s0_0, s0_1, s1_0, s1_1⟩ | with_reducible exact ⟨(keepa s0_0 l0), (keepa s0_1 l0), (keepa s1_0 l1), (keepa s1_1 l1)⟩ | with_reducible exact ⟨(keeps (keeps s0_0 gn0) gn0), (keeps (keeps s0_1 gn0) gn0), (keeps (keeps s1_0 gn1) gn1), (keeps (keeps s1_1 gn1) gn1)⟩ | exact ⟨s0_0, s0_1, s1_0, s1_1⟩ | exact ⟨(keepa s0_0 l0), (keepa s0_1 l0), (keepa s1_0 l1), (keepa s1_1 l1)⟩) (first
      | (go_at_call 34; refine (minus_any b B _ (by first | with_reducible exact hy | with_reducible exact hy.alloc _ | exact hy | exact hy.alloc _)).mono ?_; rintro e w1 ⟨S1, rfl, h1, ha1⟩; have hb1 : Below W.heap.size W w1 := (by first | with_reducible exact ha1 | with_reducible exact undrew ha1 | with_reducible exact unalloc ha1 | with_reducible exact undrewalloc ha1 | with_reducible exact undrew (unalloc ha1)); (try replace ga0 := keepc hb1 ga0 gl); (try replace ga1 := keepc hb1 ga1 gl); (try replace gf0 := keepf hb1 gf0 gl); (try replace gf1 := keepf hb1 gf1 gl); (try replace gl := Nat.lt_of_lt_of_le gl hb1.size); (try (have gx := (by first | with_reducible exact newvar ha1 | with_reducible exact newvard ha1 | with_reducible exact newvare ha1 : NewVar W w1); have ga0 := gx.1; have ga1 := gx.2.1; have gf0 := gx.2.2.1; have gf1 := gx.2.2.2.1; have gl := gx.2.2.2.2; have gge := gB.out.size; have gn0 := Nat.ne_of_lt l0; have gn1 := Nat.ne_of_lt l1; clear gx)); replace gB := Lib.hid (onto gB.out hb1); replace s0_0 := keepc hb1 s0_0 l0; replace s0_1 := keepc hb1 s0_1 l0; replace s1_0 := keepc hb1 s1_0 l1; replace s1_1 := keepc hb1 s1_1 l1; replace l0 := Nat.lt_of_lt_of_le l0 hb1.size; replace l1 := Nat.lt_of_lt_of_le l1 hb1.size; replace hx := hx.to hb1; replace hy := hy.to hb1; replace HW := Lib.hid (hstep HW hb1); clear hb1; clear ha1)
      | (go_at_call 33; refine (plus_any a (-b) A S1 _ (by first | with_reducible exact hx | with_reducible exact hx.alloc _ | exact hx | exact hx.alloc _) (by first | with_reducible exact h1 | with_reducible exact h1.alloc _ | exact h1 | exact h1.alloc _) (by have := HX.out; omega) (by rw [ab_neg]; have := HY.out; omega)).mono ?_; rintro e w2 ⟨S2, rfl, h2, ha2⟩; have hb2 : Below w1.heap.size w1 w2 := (by first | with_reducible exact ha2 | with_reducible exact undrew ha2 | with_reducible exact unalloc ha2 | with_reducible exact undrewalloc ha2 | with_reducible exact undrew (unalloc ha2)); (try replace ga0 := keepc hb2 ga0 gl); (try replace ga1 := keepc hb2 ga1 gl); (try replace gf0 := keepf hb2 gf0 gl); (try replace gf1 := keepf hb2 gf1 gl); (try replace gl := Nat.lt_of_lt_of_le gl hb2.size); (try (have gx := (by first | with_reducible exact newvar ha2 | with_reducible exact newvard ha2 | with_reducible exact newvare ha2 : NewVar w1 w2); have ga0 := gx.1; have ga1 := gx.2.1; have gf0 := gx.2.2.1; have gf1 := gx.2.2.2.1; have gl := gx.2.2.2.2; have gge := gB.out.size; have gn0 := Nat.ne_of_lt l0; have gn1 := Nat.ne_of_lt l1; clear gx)); replace gB := Lib.hid (onto gB.out hb2); replace s0_0 := keepc hb2 s0_0 l0; replace s0_1 := keepc hb2 s0_1 l0; replace s1_0 := keepc hb2 s1_0 l1; replace s1_1 := keepc hb2 s1_1 l1; replace l0 := Nat.lt_of_lt_of_le l0 hb2.size; replace l1 := Nat.lt_of_lt_of_le l1 hb2.size; replace hx := hx.to hb2; replace hy := hy.to hb2; replace h1 := h1.to hb2; replace HW := Lib.hid (hstep HW hb2); clear hb2; clear ha2))
    all_goals
      go_wp2_with fail
      go_meet
      first | exact varWhole_set gB.out ga0 ga1 gf0 gf1 h2 gge gl | exact varWhole_new gB.out h2
  case rest =>
  obtain ⟨g0, V0, hp0, t0_0, t0_1, u0_0, u0_1, hv0, hg0, l100, hb1⟩ := hcut
  subst hp0
  obtain ⟨w1, rfl⟩ : ∃ X : World, X = wc := ⟨_, rfl⟩
  replace s0_0 := keepc hb1 s0_0 l0
  replace s0_1 := keepc hb1 s0_1 l0
  replace s1_0 := keepc hb1 s1_0 l1
  replace s1_1 := keepc hb1 s1_1 l1
  replace l0 := Nat.lt_of_lt_of_le l0 hb1.size
  replace l1 := Nat.lt_of_lt_of_le l1 hb1.size
  replace hx := hx.to hb1
  replace hy := hy.to hb1
  replace HW := Lib.hid (hstep HW hb1)
  clear hb1
  have t := T.out
  go_wp2_with fail
  go_ret
  exact ⟨rfl, HW.out⟩
set_option maxHeartbeats 4000000 in
theorem wcmp_eq (a b : Int) (A B : Option Addr) (w : World) (hx : Nat32 w A (ab a)) (hy : Nat32 w B (ab b)) (hbx : ln (ab a) ≤ 549755813888) (hby : ln (ab b) ≤ 549755813888) (h : a = b) :
    Calls Try.prog 38 #[.agg #[.bool (sn (a)), .slice A (ln (ab (a))) (ln (ab (a)))], .agg #[.bool (sn (b)), .slice B (ln (ab (b))) (ln (ab (b)))]] w (RetInt w (0)) := by
  have HX := Lib.hid hbx
  have HY := Lib.hid hby
  clear hbx hby
  have T : Hid (sn (a + -b) = false) := Lib.hid (by unfold sn; rw [decide_eq_false_iff_not]; omega)
  have T2 : Hid (ln (ab (a + -b)) = 0) := Lib.hid (by rw [show a + -b = 0 by omega]; exact ln_zero)
  clear h
  go_enter Try.func38, Try.ntmps38
  go_wp2_with fail
  obtain ⟨W, hW⟩ : ∃ W : World, W = ((w.alloc (.cells #[.bool (sn (a)), .slice A (ln (ab (a))) (ln (ab (a)))] 32)).alloc (.cells #[.bool (sn (b)), .slice B (ln (ab (b))) (ln (ab (b)))] 32)) := ⟨_, rfl⟩
  have s0_0 : W.cell? ⟨w.heap.size, 0, none⟩ = some (.bool (sn (a))) := by subst hW; go_simp
  have s0_1 : W.cell? ⟨w.heap.size, 1, none⟩ = some (.slice A (ln (ab (a))) (ln (ab (a)))) := by subst hW; go_simp
  have s1_0 : W.cell? ⟨w.heap.size + 1, 0, none⟩ = some (.bool (sn (b))) := by subst hW; go_simp
  have s1_1 : W.cell? ⟨w.heap.size + 1, 1, none⟩ = some (.slice B (ln (ab (b))) (ln (ab (b)))) := by subst hW; go_simp
  have HW : Below w.heap.size w W := by subst hW; exact (((Below.refl w.heap.size w).alloc (Nat.le_refl _) _).alloc (by simp) _)
  have l0 : w.heap.size < W.heap.size := by subst hW; simp <;> omega
  have l1 : w.heap.size + 1 < W.heap.size := by subst hW; simp
  replace hx := hx.to HW
  replace hy := hy.to HW
  rw [← hW]
  clear hW
  replace HW := Lib.hid HW
  go_upto_region 1 with fail
  go_cut [5] (fun p wx => VarWhole W (a + -b) p wx)
  case first =>
    have gB : Hid (Below W.heap.size W W) := Lib.hid (Below.refl _ _)
    go_region_held3 (fun w' => w'.cell? ⟨w.heap.size, 0, none⟩ = some (.bool (sn (a))) ∧ w'.cell? ⟨w.heap.size, 1, none⟩ = some (.slice A (ln (ab (a))) (ln (ab (a)))) ∧ w'.cell? ⟨w.heap.size + 1, 0, none⟩ = some (.bool (sn (b))) ∧ w'.cell? ⟨w.heap.size + 1, 1, none⟩ = some (.slice B (ln (ab (b))) (ln (ab (b))))) (first | with_reducible exact ⟨s0_0, s0_1, s1_0, s1_1⟩ | with_reducible exact ⟨(keepa s0_0 l0), (keepa s0_1 l0), (keepa s1_0 l1), (keepa s1_1 l1)⟩ | with_reducible exact ⟨(keeps (keeps s0_0 gn0) gn0), (keeps (keeps s0_1 gn0) gn0), (keeps (keeps s1_0 gn1) gn1), (keeps (keeps s1_1 gn1) gn1)⟩ | exact ⟨s0_0, s0_1, s1_0, s1_1⟩ | exact ⟨(keepa s0_0 l0), (keepa s0_1 l0), (keepa s1_0 l1), (keepa s1_1 l1)⟩) (first
      | (go_at_call 34; refine (minus_any b B _ (by first | with_reducible exact hy | with_reducible exact hy.alloc _ | exact hy | exact hy.alloc _)).mono ?_; rintro e w1 ⟨S1, rfl, h1, ha1⟩; have hb1 : Below W.heap.size W w1 := (by first | with_reducible exact ha1 | with_reducible exact undrew ha1 | with_reducible exact unalloc ha1 | with_reducible exact undrewalloc ha1 | with_reducible exact undrew (unalloc ha1)); (try replace ga0 := keepc hb1 ga0 gl); (try replace ga1 := keepc hb1 ga1 gl); (try replace gf0 := keepf hb1 gf0 gl); (try replace gf1 := keepf hb1 gf1 gl); (try replace gl := Nat.lt_of_lt_of_le gl hb1.size); (try (have gx := (by first | with_reducible exact newvar ha1 | with_reducible exact newvard ha1 | with_reducible exact newvare ha1 : NewVar W w1); have ga0 := gx.1; have ga1 := gx.2.1; have gf0 := gx.2.2.1; have gf1 := gx.2.2.2.1; have gl := gx.2.2.2.2; have gge := gB.out.size; have gn0 := Nat.ne_of_lt l0; have gn1 := Nat.ne_of_lt l1; clear gx)); replace gB := Lib.hid (onto gB.out hb1); replace s0_0 := keepc hb1 s0_0 l0; replace s0_1 := keepc hb1 s0_1 l0; replace s1_0 := keepc hb1 s1_0 l1; replace s1_1 := keepc hb1 s1_1 l1; replace l0 := Nat.lt_of_lt_of_le l0 hb1.size; replace l1 := Nat.lt_of_lt_of_le l1 hb1.size; replace hx := hx.to hb1; replace hy := hy.to hb1; replace HW := Lib.hid (hstep HW hb1); clear hb1; clear ha1)
      | (go_at_call 33; refine (plus_any a (-b) A S1 _ (by first | with_reducible exact hx | with_reducible exact hx.alloc _ | exact hx | exact hx.alloc _) (by first | with_reducible exact h1 | with_reducible exact h1.alloc _ | exact h1 | exact h1.alloc _) (by have := HX.out; omega) (by rw [ab_neg]; have := HY.out; omega)).mono ?_; rintro e w2 ⟨S2, rfl, h2, ha2⟩; have hb2 : Below w1.heap.size w1 w2 := (by first | with_reducible exact ha2 | with_reducible exact undrew ha2 | with_reducible exact unalloc ha2 | with_reducible exact undrewalloc ha2 | with_reducible exact undrew (unalloc ha2)); (try replace ga0 := keepc hb2 ga0 gl); (try replace ga1 := keepc hb2 ga1 gl); (try replace gf0 := keepf hb2 gf0 gl); (try replace gf1 := keepf hb2 gf1 gl); (try replace gl := Nat.lt_of_lt_of_le gl hb2.size); (try (have gx := (by first | with_reducible exact newvar ha2 | with_reducible exact newvard ha2 | with_reducible exact newvare ha2 : NewVar w1 w2); have ga0 := gx.1; have ga1 := gx.2.1; have gf0 := gx.2.2.1; have gf1 := gx.2.2.2.1; have gl := gx.2.2.2.2; have gge := gB.out.size; have gn0 := Nat.ne_of_lt l0; have gn1 := Nat.ne_of_lt l1; clear gx)); replace gB := Lib.hid (onto gB.out hb2); replace s0_0 := keepc hb2 s0_0 l0; replace s0_1 := keepc hb2 s0_1 l0; replace s1_0 := keepc hb2 s1_0 l1; replace s1_1 := keepc hb2 s1_1 l1; replace l0 := Nat.lt_of_lt_of_le l0 hb2.size; replace l1 := Nat.lt_of_lt_of_le l1 hb2.size; replace hx := hx.to hb2; replace hy := hy.to hb2; replace h1 := h1.to hb2; replace HW := Lib.hid (hstep HW hb2); clear hb2; clear ha2))
    all_goals
      go_wp2_with fail
      go_meet
      first | exact varWhole_set gB.out ga0 ga1 gf0 gf1 h2 gge gl | exact varWhole_new gB.out h2
  case rest =>
  obtain ⟨g0, V0, hp0, t0_0, t0_1, u0_0, u0_1, hv0, hg0, l100, hb1⟩ := hcut
  subst hp0
  obtain ⟨w1, rfl⟩ : ∃ X : World, X = wc := ⟨_, rfl⟩
  replace s0_0 := keepc hb1 s0_0 l0
  replace s0_1 := keepc hb1 s0_1 l0
  replace s1_0 := keepc hb1 s1_0 l1
  replace s1_1 := keepc hb1 s1_1 l1
  replace l0 := Nat.lt_of_lt_of_le l0 hb1.size
  replace l1 := Nat.lt_of_lt_of_le l1 hb1.size
  replace hx := hx.to hb1
  replace hy := hy.to hb1
  replace HW := Lib.hid (hstep HW hb1)
  clear hb1
  have t := T.out
  have t2 := T2.out
  go_wp2_with fail
  go_ret
  exact ⟨rfl, HW.out⟩
set_option maxHeartbeats 4000000 in
theorem wcmp_gt (a b : Int) (A B : Option Addr) (w : World) (hx : Nat32 w A (ab a)) (hy : Nat32 w B (ab b)) (hbx : ln (ab a) ≤ 549755813888) (hby : ln (ab b) ≤ 549755813888) (h : b < a) :
    Calls Try.prog 38 #[.agg #[.bool (sn (a)), .slice A (ln (ab (a))) (ln (ab (a)))], .agg #[.bool (sn (b)), .slice B (ln (ab (b))) (ln (ab (b)))]] w (RetInt w (1)) := by
  have HX := Lib.hid hbx
  have HY := Lib.hid hby
  clear hbx hby
  have T : Hid (sn (a + -b) = false) := Lib.hid (by unfold sn; rw [decide_eq_false_iff_not]; omega)
  have T2 : Hid (0 < ln (ab (a + -b))) := Lib.hid (ln_pos (by unfold ab; omega))
  clear h
  go_enter Try.func38, Try.ntmps38
  go_wp2_with fail
  obtain ⟨W, hW⟩ : ∃ W : World, W = ((w.alloc (.cells #[.bool (sn (a)), .slice A (ln (ab (a))) (ln (ab (a)))] 32)).alloc (.cells #[.bool (sn (b)), .slice B (ln (ab (b))) (ln (ab (b)))] 32)) := ⟨_, rfl⟩
  have s0_0 : W.cell? ⟨w.heap.size, 0, none⟩ = some (.bool (sn (a))) := by subst hW; go_simp
  have s0_1 : W.cell? ⟨w.heap.size, 1, none⟩ = some (.slice A (ln (ab (a))) (ln (ab (a)))) := by subst hW; go_simp
  have s1_0 : W.cell? ⟨w.heap.size + 1, 0, none⟩ = some (.bool (sn (b))) := by subst hW; go_simp
  have s1_1 : W.cell? ⟨w.heap.size + 1, 1, none⟩ = some (.slice B (ln (ab (b))) (ln (ab (b)))) := by subst hW; go_simp
  have HW : Below w.heap.size w W := by subst hW; exact (((Below.refl w.heap.size w).alloc (Nat.le_refl _) _).alloc (by simp) _)
  have l0 : w.heap.size < W.heap.size := by subst hW; simp <;> omega
  have l1 : w.heap.size + 1 < W.heap.size := by subst hW; simp
  replace hx := hx.to HW
  replace hy := hy.to HW
  rw [← hW]
  clear hW
  replace HW := Lib.hid HW
  go_upto_region 1 with fail
  go_cut [5] (fun p wx => VarWhole W (a + -b) p wx)
  case first =>
    have gB : Hid (Below W.heap.size W W) := Lib.hid (Below.refl _ _)
    go_region_held3 (fun w' => w'.cell? ⟨w.heap.size, 0, none⟩ = some (.bool (sn (a))) ∧ w'.cell? ⟨w.heap.size, 1, none⟩ = some (.slice A (ln (ab (a))) (ln (ab (a)))) ∧ w'.cell? ⟨w.heap.size + 1, 0, none⟩ = some (.bool (sn (b))) ∧ w'.cell? ⟨w.heap.size + 1, 1, none⟩ = some (.slice B (ln (ab (b))) (ln (ab (b))))) (first | with_reducible exact ⟨s0_0, s0_1, s1_0, s1_1⟩ | with_reducible exact ⟨(keepa s0_0 l0), (keepa s0_1 l0), (keepa s1_0 l1), (keepa s1_1 l1)⟩ | with_reducible exact ⟨(keeps (keeps s0_0 gn0) gn0), (keeps (keeps s0_1 gn0) gn0), (keeps (keeps s1_0 gn1) gn1), (keeps (keeps s1_1 gn1) gn1)⟩ | exact ⟨s0_0, s0_1, s1_0, s1_1⟩ | exact ⟨(keepa s0_0 l0), (keepa s0_1 l0), (keepa s1_0 l1), (keepa s1_1 l1)⟩) (first
      | (go_at_call 34; refine (minus_any b B _ (by first | with_reducible exact hy | with_reducible exact hy.alloc _ | exact hy | exact hy.alloc _)).mono ?_; rintro e w1 ⟨S1, rfl, h1, ha1⟩; have hb1 : Below W.heap.size W w1 := (by first | with_reducible exact ha1 | with_reducible exact undrew ha1 | with_reducible exact unalloc ha1 | with_reducible exact undrewalloc ha1 | with_reducible exact undrew (unalloc ha1)); (try replace ga0 := keepc hb1 ga0 gl); (try replace ga1 := keepc hb1 ga1 gl); (try replace gf0 := keepf hb1 gf0 gl); (try replace gf1 := keepf hb1 gf1 gl); (try replace gl := Nat.lt_of_lt_of_le gl hb1.size); (try (have gx := (by first | with_reducible exact newvar ha1 | with_reducible exact newvard ha1 | with_reducible exact newvare ha1 : NewVar W w1); have ga0 := gx.1; have ga1 := gx.2.1; have gf0 := gx.2.2.1; have gf1 := gx.2.2.2.1; have gl := gx.2.2.2.2; have gge := gB.out.size; have gn0 := Nat.ne_of_lt l0; have gn1 := Nat.ne_of_lt l1; clear gx)); replace gB := Lib.hid (onto gB.out hb1); replace s0_0 := keepc hb1 s0_0 l0; replace s0_1 := keepc hb1 s0_1 l0; replace s1_0 := keepc hb1 s1_0 l1; replace s1_1 := keepc hb1 s1_1 l1; replace l0 := Nat.lt_of_lt_of_le l0 hb1.size; replace l1 := Nat.lt_of_lt_of_le l1 hb1.size; replace hx := hx.to hb1; replace hy := hy.to hb1; replace HW := Lib.hid (hstep HW hb1); clear hb1; clear ha1)
      | (go_at_call 33; refine (plus_any a (-b) A S1 _ (by first | with_reducible exact hx | with_reducible exact hx.alloc _ | exact hx | exact hx.alloc _) (by first | with_reducible exact h1 | with_reducible exact h1.alloc _ | exact h1 | exact h1.alloc _) (by have := HX.out; omega) (by rw [ab_neg]; have := HY.out; omega)).mono ?_; rintro e w2 ⟨S2, rfl, h2, ha2⟩; have hb2 : Below w1.heap.size w1 w2 := (by first | with_reducible exact ha2 | with_reducible exact undrew ha2 | with_reducible exact unalloc ha2 | with_reducible exact undrewalloc ha2 | with_reducible exact undrew (unalloc ha2)); (try replace ga0 := keepc hb2 ga0 gl); (try replace ga1 := keepc hb2 ga1 gl); (try replace gf0 := keepf hb2 gf0 gl); (try replace gf1 := keepf hb2 gf1 gl); (try replace gl := Nat.lt_of_lt_of_le gl hb2.size); (try (have gx := (by first | with_reducible exact newvar ha2 | with_reducible exact newvard ha2 | with_reducible exact newvare ha2 : NewVar w1 w2); have ga0 := gx.1; have ga1 := gx.2.1; have gf0 := gx.2.2.1; have gf1 := gx.2.2.2.1; have gl := gx.2.2.2.2; have gge := gB.out.size; have gn0 := Nat.ne_of_lt l0; have gn1 := Nat.ne_of_lt l1; clear gx)); replace gB := Lib.hid (onto gB.out hb2); replace s0_0 := keepc hb2 s0_0 l0; replace s0_1 := keepc hb2 s0_1 l0; replace s1_0 := keepc hb2 s1_0 l1; replace s1_1 := keepc hb2 s1_1 l1; replace l0 := Nat.lt_of_lt_of_le l0 hb2.size; replace l1 := Nat.lt_of_lt_of_le l1 hb2.size; replace hx := hx.to hb2; replace hy := hy.to hb2; replace h1 := h1.to hb2; replace HW := Lib.hid (hstep HW hb2); clear hb2; clear ha2))
    all_goals
      go_wp2_with fail
      go_meet
      first | exact varWhole_set gB.out ga0 ga1 gf0 gf1 h2 gge gl | exact varWhole_new gB.out h2
  case rest =>
  obtain ⟨g0, V0, hp0, t0_0, t0_1, u0_0, u0_1, hv0, hg0, l100, hb1⟩ := hcut
  subst hp0
  obtain ⟨w1, rfl⟩ : ∃ X : World, X = wc := ⟨_, rfl⟩
  replace s0_0 := keepc hb1 s0_0 l0
  replace s0_1 := keepc hb1 s0_1 l0
  replace s1_0 := keepc hb1 s1_0 l1
  replace s1_1 := keepc hb1 s1_1 l1
  replace l0 := Nat.lt_of_lt_of_le l0 hb1.size
  replace l1 := Nat.lt_of_lt_of_le l1 hb1.size
  replace hx := hx.to hb1
  replace hy := hy.to hb1
  replace HW := Lib.hid (hstep HW hb1)
  clear hb1
  have t := T.out
  go_wp2_with fail
  go_ret
  exact ⟨ret_int (by have := T2.out; omega), HW.out⟩
/-- 'a.cmp(b)'. -/
theorem wcmp_any (a b : Int) (A B : Option Addr) (w : World) (hx : Nat32 w A (ab a)) (hy : Nat32 w B (ab b)) (hbx : ln (ab a) ≤ 549755813888) (hby : ln (ab b) ≤ 549755813888) :
    Calls Try.prog 38 #[.agg #[.bool (sn (a)), .slice A (ln (ab (a))) (ln (ab (a)))], .agg #[.bool (sn (b)), .slice B (ln (ab (b))) (ln (ab (b)))]] w (RetInt w (cmpZ a b)) := by
  rcases Int.lt_trichotomy a b with h | h | h
  · rw [cmpZ_lt h]; exact wcmp_lt a b A B w hx hy hbx hby h
  · rw [cmpZ_eq h]; exact wcmp_eq a b A B w hx hy hbx hby h
  · rw [cmpZ_gt h]; exact wcmp_gt a b A B w hx hy hbx hby h
end Go.Proofs.Ytdpjknjlhchmcaa

namespace Go.Proofs.Ytdpjknjlhchmcaa
open Go.RowKit Pl
set_option linter.unusedVariables false
set_option linter.unusedSimpArgs false
theorem un_inj {x y : Cx} : un x = un y ↔ nd x = nd y := by
  have hx := nd_ne0 x
  have hy := nd_ne0 y
  unfold un
  constructor
  · intro h; split at h <;> split at h <;> omega
  · intro h; rw [h]
theorem cmpZ_ne {a b : Int} (h : a ≠ b) : (cmpZ a b == 0) = false := by unfold cmpZ; rw [if_neg h]; split <;> rfl
theorem cmpN_ne {a b : Nat} (h : a ≠ b) : (cmpN a b == 0) = false := by unfold cmpN; rw [if_neg h]; split <;> rfl
theorem cmpZ_ne' {a b : Int} (h : a ≠ b) : (cmpZ a b != 0) = true := by unfold cmpZ; rw [if_neg h]; split <;> rfl
/-- The order of two numbers by their parts. -/
def cmpC (x y : Cx) : Int := if na x * (nd y : Int) = na y * (nd x : Int) then cmpZ (nb x * (nd y : Int)) (nb y * (nd x : Int)) else cmpZ (na x * (nd y : Int)) (na y * (nd x : Int))
theorem cmpC_re {x y : Cx} (h : na x * (nd y : Int) ≠ na y * (nd x : Int)) : cmpC x y = cmpZ (na x * (nd y : Int)) (na y * (nd x : Int)) := by unfold cmpC; rw [if_neg h]
theorem cmpC_im {x y : Cx} (h : na x * (nd y : Int) = na y * (nd x : Int)) : cmpC x y = cmpZ (nb x * (nd y : Int)) (nb y * (nd x : Int)) := by unfold cmpC; rw [if_pos h]
set_option maxHeartbeats 4000000 in
theorem same_0 (x y : Cx) (A1 A2 A3 B1 B2 B3 : Option Addr) (w : World) (hx : Num3 w A1 A2 A3 x) (hy : Num3 w B1 B2 B3 y) (hsx : sz 137438953472 x) (hsy : sz 137438953472 y) (h1 : na x ≠ na y) :
    Calls Try.prog 11 #[.agg #[.bool (sn (na x)), .slice A1 (ln (ab (na x))) (ln (ab (na x))), .bool (sn (nb x)), .slice A2 (ln (ab (nb x))) (ln (ab (nb x))), .slice A3 (ln (un x)) (ln (un x))], .agg #[.bool (sn (na y)), .slice B1 (ln (ab (na y))) (ln (ab (na y))), .bool (sn (nb y)), .slice B2 (ln (ab (nb y))) (ln (ab (nb y))), .slice B3 (ln (un y)) (ln (un y))]] w (RetBool w false) := by
  obtain ⟨hx1, hx2, hx3⟩ := hx
  have HSX := Lib.hid hsx
  clear hsx
  obtain ⟨hy1, hy2, hy3⟩ := hy
  have HSY := Lib.hid hsy
  clear hsy
  have t1 := cmpZ_ne h1
  clear h1
  go_enter Try.func11, Try.ntmps11
  go_wp2_with fail
  obtain ⟨W, hW⟩ : ∃ W : World, W = ((w.alloc (.cells #[.bool (sn (na x)), .slice A1 (ln (ab (na x))) (ln (ab (na x))), .bool (sn (nb x)), .slice A2 (ln (ab (nb x))) (ln (ab (nb x))), .slice A3 (ln (un x)) (ln (un x))] 34)).alloc (.cells #[.bool (sn (na y)), .slice B1 (ln (ab (na y))) (ln (ab (na y))), .bool (sn (nb y)), .slice B2 (ln (ab (nb y))) (ln (ab (nb y))), .slice B3 (ln (un y)) (ln (un y))] 34)) := ⟨_, rfl⟩
  have s0_0 : W.cell? ⟨w.heap.size, 0, none⟩ = some (.bool (sn (na x))) := by subst hW; go_simp
  have s0_1 : W.cell? ⟨w.heap.size, 1, none⟩ = some (.slice A1 (ln (ab (na x))) (ln (ab (na x)))) := by subst hW; go_simp
  have s0_2 : W.cell? ⟨w.heap.size, 2, none⟩ = some (.bool (sn (nb x))) := by subst hW; go_simp
  have s0_3 : W.cell? ⟨w.heap.size, 3, none⟩ = some (.slice A2 (ln (ab (nb x))) (ln (ab (nb x)))) := by subst hW; go_simp
  have s0_4 : W.cell? ⟨w.heap.size, 4, none⟩ = some (.slice A3 (ln (un x)) (ln (un x))) := by subst hW; go_simp
  have s1_0 : W.cell? ⟨w.heap.size + 1, 0, none⟩ = some (.bool (sn (na y))) := by subst hW; go_simp
  have s1_1 : W.cell? ⟨w.heap.size + 1, 1, none⟩ = some (.slice B1 (ln (ab (na y))) (ln (ab (na y)))) := by subst hW; go_simp
  have s1_2 : W.cell? ⟨w.heap.size + 1, 2, none⟩ = some (.bool (sn (nb y))) := by subst hW; go_simp
  have s1_3 : W.cell? ⟨w.heap.size + 1, 3, none⟩ = some (.slice B2 (ln (ab (nb y))) (ln (ab (nb y)))) := by subst hW; go_simp
  have s1_4 : W.cell? ⟨w.heap.size + 1, 4, none⟩ = some (.slice B3 (ln (un y)) (ln (un y))) := by subst hW; go_simp
  have HW : Below w.heap.size w W := by subst hW; exact (((Below.refl w.heap.size w).alloc (Nat.le_refl _) _).alloc (by simp) _)
  have l0 : w.heap.size < W.heap.size := by subst hW; simp <;> omega
  have l1 : w.heap.size + 1 < W.heap.size := by subst hW; simp
  replace hx1 := hx1.to HW
  replace hx2 := hx2.to HW
  replace hx3 := hx3.to HW
  replace hy1 := hy1.to HW
  replace hy2 := hy2.to HW
  replace hy3 := hy3.to HW
  rw [← hW]
  clear hW
  replace HW := Lib.hid HW
  refine (wcmp_any (na x) (na y) A1 B1 _ (by exact hx1) (by exact hy1) (by have := HSX.out; unfold sz at this; omega) (by have := HSY.out; unfold sz at this; omega)).mono ?_
  rintro e w1 ⟨rfl, hb1⟩
  replace s0_0 := keepc hb1 s0_0 l0
  replace s0_1 := keepc hb1 s0_1 l0
  replace s0_2 := keepc hb1 s0_2 l0
  replace s0_3 := keepc hb1 s0_3 l0
  replace s0_4 := keepc hb1 s0_4 l0
  replace s1_0 := keepc hb1 s1_0 l1
  replace s1_1 := keepc hb1 s1_1 l1
  replace s1_2 := keepc hb1 s1_2 l1
  replace s1_3 := keepc hb1 s1_3 l1
  replace s1_4 := keepc hb1 s1_4 l1
  replace l0 := Nat.lt_of_lt_of_le l0 hb1.size
  replace l1 := Nat.lt_of_lt_of_le l1 hb1.size
  replace hx1 := hx1.to hb1
  replace hx2 := hx2.to hb1
  replace hx3 := hx3.to hb1
  replace hy1 := hy1.to hb1
  replace hy2 := hy2.to hb1
  replace hy3 := hy3.to hb1
  replace HW := Lib.hid (hstep HW hb1)
  clear hb1
  go_wp2_with fail
  go_ret
  exact ⟨rfl, HW.out⟩
set_option maxHeartbeats 4000000 in
theorem same_1 (x y : Cx) (A1 A2 A3 B1 B2 B3 : Option Addr) (w : World) (hx : Num3 w A1 A2 A3 x) (hy : Num3 w B1 B2 B3 y) (hsx : sz 137438953472 x) (hsy : sz 137438953472 y) (h1 : na x = na y) (h2 : nb x ≠ nb y) :
    Calls Try.prog 11 #[.agg #[.bool (sn (na x)), .slice A1 (ln (ab (na x))) (ln (ab (na x))), .bool (sn (nb x)), .slice A2 (ln (ab (nb x))) (ln (ab (nb x))), .slice A3 (ln (un x)) (ln (un x))], .agg #[.bool (sn (na y)), .slice B1 (ln (ab (na y))) (ln (ab (na y))), .bool (sn (nb y)), .slice B2 (ln (ab (nb y))) (ln (ab (nb y))), .slice B3 (ln (un y)) (ln (un y))]] w (RetBool w false) := by
  obtain ⟨hx1, hx2, hx3⟩ := hx
  have HSX := Lib.hid hsx
  clear hsx
  obtain ⟨hy1, hy2, hy3⟩ := hy
  have HSY := Lib.hid hsy
  clear hsy
  have t1 := cmpZ_eq h1
  have t2 := cmpZ_ne h2
  clear h1 h2
  go_enter Try.func11, Try.ntmps11
  go_wp2_with fail
  obtain ⟨W, hW⟩ : ∃ W : World, W = ((w.alloc (.cells #[.bool (sn (na x)), .slice A1 (ln (ab (na x))) (ln (ab (na x))), .bool (sn (nb x)), .slice A2 (ln (ab (nb x))) (ln (ab (nb x))), .slice A3 (ln (un x)) (ln (un x))] 34)).alloc (.cells #[.bool (sn (na y)), .slice B1 (ln (ab (na y))) (ln (ab (na y))), .bool (sn (nb y)), .slice B2 (ln (ab (nb y))) (ln (ab (nb y))), .slice B3 (ln (un y)) (ln (un y))] 34)) := ⟨_, rfl⟩
  have s0_0 : W.cell? ⟨w.heap.size, 0, none⟩ = some (.bool (sn (na x))) := by subst hW; go_simp
  have s0_1 : W.cell? ⟨w.heap.size, 1, none⟩ = some (.slice A1 (ln (ab (na x))) (ln (ab (na x)))) := by subst hW; go_simp
  have s0_2 : W.cell? ⟨w.heap.size, 2, none⟩ = some (.bool (sn (nb x))) := by subst hW; go_simp
  have s0_3 : W.cell? ⟨w.heap.size, 3, none⟩ = some (.slice A2 (ln (ab (nb x))) (ln (ab (nb x)))) := by subst hW; go_simp
  have s0_4 : W.cell? ⟨w.heap.size, 4, none⟩ = some (.slice A3 (ln (un x)) (ln (un x))) := by subst hW; go_simp
  have s1_0 : W.cell? ⟨w.heap.size + 1, 0, none⟩ = some (.bool (sn (na y))) := by subst hW; go_simp
  have s1_1 : W.cell? ⟨w.heap.size + 1, 1, none⟩ = some (.slice B1 (ln (ab (na y))) (ln (ab (na y)))) := by subst hW; go_simp
  have s1_2 : W.cell? ⟨w.heap.size + 1, 2, none⟩ = some (.bool (sn (nb y))) := by subst hW; go_simp
  have s1_3 : W.cell? ⟨w.heap.size + 1, 3, none⟩ = some (.slice B2 (ln (ab (nb y))) (ln (ab (nb y)))) := by subst hW; go_simp
  have s1_4 : W.cell? ⟨w.heap.size + 1, 4, none⟩ = some (.slice B3 (ln (un y)) (ln (un y))) := by subst hW; go_simp
  have HW : Below w.heap.size w W := by subst hW; exact (((Below.refl w.heap.size w).alloc (Nat.le_refl _) _).alloc (by simp) _)
  have l0 : w.heap.size < W.heap.size := by subst hW; simp <;> omega
  have l1 : w.heap.size + 1 < W.heap.size := by subst hW; simp
  replace hx1 := hx1.to HW
  replace hx2 := hx2.to HW
  replace hx3 := hx3.to HW
  replace hy1 := hy1.to HW
  replace hy2 := hy2.to HW
  replace hy3 := hy3.to HW
  rw [← hW]
  clear hW
  replace HW := Lib.hid HW
  refine (wcmp_any (na x) (na y) A1 B1 _ (by exact hx1) (by exact hy1) (by have := HSX.out; unfold sz at this; omega) (by have := HSY.out; unfold sz at this; omega)).mono ?_
  rintro e w1 ⟨rfl, hb1⟩
  replace s0_0 := keepc hb1 s0_0 l0
  replace s0_1 := keepc hb1 s0_1 l0
  replace s0_2 := keepc hb1 s0_2 l0
  replace s0_3 := keepc hb1 s0_3 l0
  replace s0_4 := keepc hb1 s0_4 l0
  replace s1_0 := keepc hb1 s1_0 l1
  replace s1_1 := keepc hb1 s1_1 l1
  replace s1_2 := keepc hb1 s1_2 l1
  replace s1_3 := keepc hb1 s1_3 l1
  replace s1_4 := keepc hb1 s1_4 l1
  replace l0 := Nat.lt_of_lt_of_le l0 hb1.size
  replace l1 := Nat.lt_of_lt_of_le l1 hb1.size
  replace hx1 := hx1.to hb1
  replace hx2 := hx2.to hb1
  replace hx3 := hx3.to hb1
  replace hy1 := hy1.to hb1
  replace hy2 := hy2.to hb1
  replace hy3 := hy3.to hb1
  replace HW := Lib.hid (hstep HW hb1)
  clear hb1
  go_wp2_with fail
  refine (wcmp_any (nb x) (nb y) A2 B2 _ (by exact hx2) (by exact hy2) (by have := HSX.out; unfold sz at this; omega) (by have := HSY.out; unfold sz at this; omega)).mono ?_
  rintro e w2 ⟨rfl, hb2⟩
  replace s0_0 := keepc hb2 s0_0 l0
  replace s0_1 := keepc hb2 s0_1 l0
  replace s0_2 := keepc hb2 s0_2 l0
  replace s0_3 := keepc hb2 s0_3 l0
  replace s0_4 := keepc hb2 s0_4 l0
  replace s1_0 := keepc hb2 s1_0 l1
  replace s1_1 := keepc hb2 s1_1 l1
  replace s1_2 := keepc hb2 s1_2 l1
  replace s1_3 := keepc hb2 s1_3 l1
  replace s1_4 := keepc hb2 s1_4 l1
  replace l0 := Nat.lt_of_lt_of_le l0 hb2.size
  replace l1 := Nat.lt_of_lt_of_le l1 hb2.size
  replace hx1 := hx1.to hb2
  replace hx2 := hx2.to hb2
  replace hx3 := hx3.to hb2
  replace hy1 := hy1.to hb2
  replace hy2 := hy2.to hb2
  replace hy3 := hy3.to hb2
  replace HW := Lib.hid (hstep HW hb2)
  clear hb2
  go_wp2_with fail
  go_ret
  exact ⟨rfl, HW.out⟩
set_option maxHeartbeats 4000000 in
theorem same_2 (x y : Cx) (A1 A2 A3 B1 B2 B3 : Option Addr) (w : World) (hx : Num3 w A1 A2 A3 x) (hy : Num3 w B1 B2 B3 y) (hsx : sz 137438953472 x) (hsy : sz 137438953472 y) (h1 : na x = na y) (h2 : nb x = nb y) (h3 : un x ≠ un y) :
    Calls Try.prog 11 #[.agg #[.bool (sn (na x)), .slice A1 (ln (ab (na x))) (ln (ab (na x))), .bool (sn (nb x)), .slice A2 (ln (ab (nb x))) (ln (ab (nb x))), .slice A3 (ln (un x)) (ln (un x))], .agg #[.bool (sn (na y)), .slice B1 (ln (ab (na y))) (ln (ab (na y))), .bool (sn (nb y)), .slice B2 (ln (ab (nb y))) (ln (ab (nb y))), .slice B3 (ln (un y)) (ln (un y))]] w (RetBool w false) := by
  obtain ⟨hx1, hx2, hx3⟩ := hx
  have HSX := Lib.hid hsx
  clear hsx
  obtain ⟨hy1, hy2, hy3⟩ := hy
  have HSY := Lib.hid hsy
  clear hsy
  have t1 := cmpZ_eq h1
  have t2 := cmpZ_eq h2
  have t3 := cmpN_ne h3
  clear h1 h2 h3
  go_enter Try.func11, Try.ntmps11
  go_wp2_with fail
  obtain ⟨W, hW⟩ : ∃ W : World, W = ((w.alloc (.cells #[.bool (sn (na x)), .slice A1 (ln (ab (na x))) (ln (ab (na x))), .bool (sn (nb x)), .slice A2 (ln (ab (nb x))) (ln (ab (nb x))), .slice A3 (ln (un x)) (ln (un x))] 34)).alloc (.cells #[.bool (sn (na y)), .slice B1 (ln (ab (na y))) (ln (ab (na y))), .bool (sn (nb y)), .slice B2 (ln (ab (nb y))) (ln (ab (nb y))), .slice B3 (ln (un y)) (ln (un y))] 34)) := ⟨_, rfl⟩
  have s0_0 : W.cell? ⟨w.heap.size, 0, none⟩ = some (.bool (sn (na x))) := by subst hW; go_simp
  have s0_1 : W.cell? ⟨w.heap.size, 1, none⟩ = some (.slice A1 (ln (ab (na x))) (ln (ab (na x)))) := by subst hW; go_simp
  have s0_2 : W.cell? ⟨w.heap.size, 2, none⟩ = some (.bool (sn (nb x))) := by subst hW; go_simp
  have s0_3 : W.cell? ⟨w.heap.size, 3, none⟩ = some (.slice A2 (ln (ab (nb x))) (ln (ab (nb x)))) := by subst hW; go_simp
  have s0_4 : W.cell? ⟨w.heap.size, 4, none⟩ = some (.slice A3 (ln (un x)) (ln (un x))) := by subst hW; go_simp
  have s1_0 : W.cell? ⟨w.heap.size + 1, 0, none⟩ = some (.bool (sn (na y))) := by subst hW; go_simp
  have s1_1 : W.cell? ⟨w.heap.size + 1, 1, none⟩ = some (.slice B1 (ln (ab (na y))) (ln (ab (na y)))) := by subst hW; go_simp
  have s1_2 : W.cell? ⟨w.heap.size + 1, 2, none⟩ = some (.bool (sn (nb y))) := by subst hW; go_simp
  have s1_3 : W.cell? ⟨w.heap.size + 1, 3, none⟩ = some (.slice B2 (ln (ab (nb y))) (ln (ab (nb y)))) := by subst hW; go_simp
  have s1_4 : W.cell? ⟨w.heap.size + 1, 4, none⟩ = some (.slice B3 (ln (un y)) (ln (un y))) := by subst hW; go_simp
  have HW : Below w.heap.size w W := by subst hW; exact (((Below.refl w.heap.size w).alloc (Nat.le_refl _) _).alloc (by simp) _)
  have l0 : w.heap.size < W.heap.size := by subst hW; simp <;> omega
  have l1 : w.heap.size + 1 < W.heap.size := by subst hW; simp
  replace hx1 := hx1.to HW
  replace hx2 := hx2.to HW
  replace hx3 := hx3.to HW
  replace hy1 := hy1.to HW
  replace hy2 := hy2.to HW
  replace hy3 := hy3.to HW
  rw [← hW]
  clear hW
  replace HW := Lib.hid HW
  refine (wcmp_any (na x) (na y) A1 B1 _ (by exact hx1) (by exact hy1) (by have := HSX.out; unfold sz at this; omega) (by have := HSY.out; unfold sz at this; omega)).mono ?_
  rintro e w1 ⟨rfl, hb1⟩
  replace s0_0 := keepc hb1 s0_0 l0
  replace s0_1 := keepc hb1 s0_1 l0
  replace s0_2 := keepc hb1 s0_2 l0
  replace s0_3 := keepc hb1 s0_3 l0
  replace s0_4 := keepc hb1 s0_4 l0
  replace s1_0 := keepc hb1 s1_0 l1
  replace s1_1 := keepc hb1 s1_1 l1
  replace s1_2 := keepc hb1 s1_2 l1
  replace s1_3 := keepc hb1 s1_3 l1
  replace s1_4 := keepc hb1 s1_4 l1
  replace l0 := Nat.lt_of_lt_of_le l0 hb1.size
  replace l1 := Nat.lt_of_lt_of_le l1 hb1.size
  replace hx1 := hx1.to hb1
  replace hx2 := hx2.to hb1
  replace hx3 := hx3.to hb1
  replace hy1 := hy1.to hb1
  replace hy2 := hy2.to hb1
  replace hy3 := hy3.to hb1
  replace HW := Lib.hid (hstep HW hb1)
  clear hb1
  go_wp2_with fail
  refine (wcmp_any (nb x) (nb y) A2 B2 _ (by exact hx2) (by exact hy2) (by have := HSX.out; unfold sz at this; omega) (by have := HSY.out; unfold sz at this; omega)).mono ?_
  rintro e w2 ⟨rfl, hb2⟩
  replace s0_0 := keepc hb2 s0_0 l0
  replace s0_1 := keepc hb2 s0_1 l0
  replace s0_2 := keepc hb2 s0_2 l0
  replace s0_3 := keepc hb2 s0_3 l0
  replace s0_4 := keepc hb2 s0_4 l0
  replace s1_0 := keepc hb2 s1_0 l1
  replace s1_1 := keepc hb2 s1_1 l1
  replace s1_2 := keepc hb2 s1_2 l1
  replace s1_3 := keepc hb2 s1_3 l1
  replace s1_4 := keepc hb2 s1_4 l1
  replace l0 := Nat.lt_of_lt_of_le l0 hb2.size
  replace l1 := Nat.lt_of_lt_of_le l1 hb2.size
  replace hx1 := hx1.to hb2
  replace hx2 := hx2.to hb2
  replace hx3 := hx3.to hb2
  replace hy1 := hy1.to hb2
  replace hy2 := hy2.to hb2
  replace hy3 := hy3.to hb2
  replace HW := Lib.hid (hstep HW hb2)
  clear hb2
  go_wp2_with fail
  refine (cmp_any (un x) (un y) A3 B3 _ (by exact hx3) (by exact hy3) (by have := HSX.out.2.2; have := un_ln x; omega)).mono ?_
  rintro e w3 ⟨rfl, hb3⟩
  replace s0_0 := keepc hb3 s0_0 l0
  replace s0_1 := keepc hb3 s0_1 l0
  replace s0_2 := keepc hb3 s0_2 l0
  replace s0_3 := keepc hb3 s0_3 l0
  replace s0_4 := keepc hb3 s0_4 l0
  replace s1_0 := keepc hb3 s1_0 l1
  replace s1_1 := keepc hb3 s1_1 l1
  replace s1_2 := keepc hb3 s1_2 l1
  replace s1_3 := keepc hb3 s1_3 l1
  replace s1_4 := keepc hb3 s1_4 l1
  replace l0 := Nat.lt_of_lt_of_le l0 hb3.size
  replace l1 := Nat.lt_of_lt_of_le l1 hb3.size
  replace hx1 := hx1.to hb3
  replace hx2 := hx2.to hb3
  replace hx3 := hx3.to hb3
  replace hy1 := hy1.to hb3
  replace hy2 := hy2.to hb3
  replace hy3 := hy3.to hb3
  replace HW := Lib.hid (hstep HW hb3)
  clear hb3
  go_wp2_with fail
  go_ret
  exact ⟨rfl, HW.out⟩
set_option maxHeartbeats 4000000 in
theorem same_3 (x y : Cx) (A1 A2 A3 B1 B2 B3 : Option Addr) (w : World) (hx : Num3 w A1 A2 A3 x) (hy : Num3 w B1 B2 B3 y) (hsx : sz 137438953472 x) (hsy : sz 137438953472 y) (h1 : na x = na y) (h2 : nb x = nb y) (h3 : un x = un y) :
    Calls Try.prog 11 #[.agg #[.bool (sn (na x)), .slice A1 (ln (ab (na x))) (ln (ab (na x))), .bool (sn (nb x)), .slice A2 (ln (ab (nb x))) (ln (ab (nb x))), .slice A3 (ln (un x)) (ln (un x))], .agg #[.bool (sn (na y)), .slice B1 (ln (ab (na y))) (ln (ab (na y))), .bool (sn (nb y)), .slice B2 (ln (ab (nb y))) (ln (ab (nb y))), .slice B3 (ln (un y)) (ln (un y))]] w (RetBool w true) := by
  obtain ⟨hx1, hx2, hx3⟩ := hx
  have HSX := Lib.hid hsx
  clear hsx
  obtain ⟨hy1, hy2, hy3⟩ := hy
  have HSY := Lib.hid hsy
  clear hsy
  have t1 := cmpZ_eq h1
  have t2 := cmpZ_eq h2
  have t3 := cmpN_eq h3
  clear h1 h2 h3
  go_enter Try.func11, Try.ntmps11
  go_wp2_with fail
  obtain ⟨W, hW⟩ : ∃ W : World, W = ((w.alloc (.cells #[.bool (sn (na x)), .slice A1 (ln (ab (na x))) (ln (ab (na x))), .bool (sn (nb x)), .slice A2 (ln (ab (nb x))) (ln (ab (nb x))), .slice A3 (ln (un x)) (ln (un x))] 34)).alloc (.cells #[.bool (sn (na y)), .slice B1 (ln (ab (na y))) (ln (ab (na y))), .bool (sn (nb y)), .slice B2 (ln (ab (nb y))) (ln (ab (nb y))), .slice B3 (ln (un y)) (ln (un y))] 34)) := ⟨_, rfl⟩
  have s0_0 : W.cell? ⟨w.heap.size, 0, none⟩ = some (.bool (sn (na x))) := by subst hW; go_simp
  have s0_1 : W.cell? ⟨w.heap.size, 1, none⟩ = some (.slice A1 (ln (ab (na x))) (ln (ab (na x)))) := by subst hW; go_simp
  have s0_2 : W.cell? ⟨w.heap.size, 2, none⟩ = some (.bool (sn (nb x))) := by subst hW; go_simp
  have s0_3 : W.cell? ⟨w.heap.size, 3, none⟩ = some (.slice A2 (ln (ab (nb x))) (ln (ab (nb x)))) := by subst hW; go_simp
  have s0_4 : W.cell? ⟨w.heap.size, 4, none⟩ = some (.slice A3 (ln (un x)) (ln (un x))) := by subst hW; go_simp
  have s1_0 : W.cell? ⟨w.heap.size + 1, 0, none⟩ = some (.bool (sn (na y))) := by subst hW; go_simp
  have s1_1 : W.cell? ⟨w.heap.size + 1, 1, none⟩ = some (.slice B1 (ln (ab (na y))) (ln (ab (na y)))) := by subst hW; go_simp
  have s1_2 : W.cell? ⟨w.heap.size + 1, 2, none⟩ = some (.bool (sn (nb y))) := by subst hW; go_simp
  have s1_3 : W.cell? ⟨w.heap.size + 1, 3, none⟩ = some (.slice B2 (ln (ab (nb y))) (ln (ab (nb y)))) := by subst hW; go_simp
  have s1_4 : W.cell? ⟨w.heap.size + 1, 4, none⟩ = some (.slice B3 (ln (un y)) (ln (un y))) := by subst hW; go_simp
  have HW : Below w.heap.size w W := by subst hW; exact (((Below.refl w.heap.size w).alloc (Nat.le_refl _) _).alloc (by simp) _)
  have l0 : w.heap.size < W.heap.size := by subst hW; simp <;> omega
  have l1 : w.heap.size + 1 < W.heap.size := by subst hW; simp
  replace hx1 := hx1.to HW
  replace hx2 := hx2.to HW
  replace hx3 := hx3.to HW
  replace hy1 := hy1.to HW
  replace hy2 := hy2.to HW
  replace hy3 := hy3.to HW
  rw [← hW]
  clear hW
  replace HW := Lib.hid HW
  refine (wcmp_any (na x) (na y) A1 B1 _ (by exact hx1) (by exact hy1) (by have := HSX.out; unfold sz at this; omega) (by have := HSY.out; unfold sz at this; omega)).mono ?_
  rintro e w1 ⟨rfl, hb1⟩
  replace s0_0 := keepc hb1 s0_0 l0
  replace s0_1 := keepc hb1 s0_1 l0
  replace s0_2 := keepc hb1 s0_2 l0
  replace s0_3 := keepc hb1 s0_3 l0
  replace s0_4 := keepc hb1 s0_4 l0
  replace s1_0 := keepc hb1 s1_0 l1
  replace s1_1 := keepc hb1 s1_1 l1
  replace s1_2 := keepc hb1 s1_2 l1
  replace s1_3 := keepc hb1 s1_3 l1
  replace s1_4 := keepc hb1 s1_4 l1
  replace l0 := Nat.lt_of_lt_of_le l0 hb1.size
  replace l1 := Nat.lt_of_lt_of_le l1 hb1.size
  replace hx1 := hx1.to hb1
  replace hx2 := hx2.to hb1
  replace hx3 := hx3.to hb1
  replace hy1 := hy1.to hb1
  replace hy2 := hy2.to hb1
  replace hy3 := hy3.to hb1
  replace HW := Lib.hid (hstep HW hb1)
  clear hb1
  go_wp2_with fail
  refine (wcmp_any (nb x) (nb y) A2 B2 _ (by exact hx2) (by exact hy2) (by have := HSX.out; unfold sz at this; omega) (by have := HSY.out; unfold sz at this; omega)).mono ?_
  rintro e w2 ⟨rfl, hb2⟩
  replace s0_0 := keepc hb2 s0_0 l0
  replace s0_1 := keepc hb2 s0_1 l0
  replace s0_2 := keepc hb2 s0_2 l0
  replace s0_3 := keepc hb2 s0_3 l0
  replace s0_4 := keepc hb2 s0_4 l0
  replace s1_0 := keepc hb2 s1_0 l1
  replace s1_1 := keepc hb2 s1_1 l1
  replace s1_2 := keepc hb2 s1_2 l1
  replace s1_3 := keepc hb2 s1_3 l1
  replace s1_4 := keepc hb2 s1_4 l1
  replace l0 := Nat.lt_of_lt_of_le l0 hb2.size
  replace l1 := Nat.lt_of_lt_of_le l1 hb2.size
  replace hx1 := hx1.to hb2
  replace hx2 := hx2.to hb2
  replace hx3 := hx3.to hb2
  replace hy1 := hy1.to hb2
  replace hy2 := hy2.to hb2
  replace hy3 := hy3.to hb2
  replace HW := Lib.hid (hstep HW hb2)
  clear hb2
  go_wp2_with fail
  refine (cmp_any (un x) (un y) A3 B3 _ (by exact hx3) (by exact hy3) (by have := HSX.out.2.2; have := un_ln x; omega)).mono ?_
  rintro e w3 ⟨rfl, hb3⟩
  replace s0_0 := keepc hb3 s0_0 l0
  replace s0_1 := keepc hb3 s0_1 l0
  replace s0_2 := keepc hb3 s0_2 l0
  replace s0_3 := keepc hb3 s0_3 l0
  replace s0_4 := keepc hb3 s0_4 l0
  replace s1_0 := keepc hb3 s1_0 l1
  replace s1_1 := keepc hb3 s1_1 l1
  replace s1_2 := keepc hb3 s1_2 l1
  replace s1_3 := keepc hb3 s1_3 l1
  replace s1_4 := keepc hb3 s1_4 l1
  replace l0 := Nat.lt_of_lt_of_le l0 hb3.size
  replace l1 := Nat.lt_of_lt_of_le l1 hb3.size
  replace hx1 := hx1.to hb3
  replace hx2 := hx2.to hb3
  replace hx3 := hx3.to hb3
  replace hy1 := hy1.to hb3
  replace hy2 := hy2.to hb3
  replace hy3 := hy3.to hb3
  replace HW := Lib.hid (hstep HW hb3)
  clear hb3
  go_wp2_with fail
  go_ret
  exact ⟨rfl, HW.out⟩
/-- 'x.Same(y)'. -/
theorem same_any (x y : Cx) (A1 A2 A3 B1 B2 B3 : Option Addr) (w : World) (hx : Num3 w A1 A2 A3 x) (hy : Num3 w B1 B2 B3 y) (hsx : sz 137438953472 x) (hsy : sz 137438953472 y) :
    Calls Try.prog 11 #[.agg #[.bool (sn (na x)), .slice A1 (ln (ab (na x))) (ln (ab (na x))), .bool (sn (nb x)), .slice A2 (ln (ab (nb x))) (ln (ab (nb x))), .slice A3 (ln (un x)) (ln (un x))], .agg #[.bool (sn (na y)), .slice B1 (ln (ab (na y))) (ln (ab (na y))), .bool (sn (nb y)), .slice B2 (ln (ab (nb y))) (ln (ab (nb y))), .slice B3 (ln (un y)) (ln (un y))]] w (RetBool w (decide (x = y))) := by
  by_cases h1 : na x = na y
  · by_cases h2 : nb x = nb y
    · by_cases h3 : un x = un y
      · rw [decide_eq_true (cx_inj h1 h2 (un_inj.1 h3))]; exact same_3 x y A1 A2 A3 B1 B2 B3 w hx hy hsx hsy h1 h2 h3
      · rw [decide_eq_false (fun e => h3 (by rw [e]))]; exact same_2 x y A1 A2 A3 B1 B2 B3 w hx hy hsx hsy h1 h2 h3
    · rw [decide_eq_false (fun e => h2 (by rw [e]))]; exact same_1 x y A1 A2 A3 B1 B2 B3 w hx hy hsx hsy h1 h2
  · rw [decide_eq_false (fun e => h1 (by rw [e]))]; exact same_0 x y A1 A2 A3 B1 B2 B3 w hx hy hsx hsy h1
set_option maxHeartbeats 4000000 in
theorem cmpn_re (x y : Cx) (A1 A2 A3 B1 B2 B3 : Option Addr) (w : World) (hx : Num3 w A1 A2 A3 x) (hy : Num3 w B1 B2 B3 y) (hsx : sz 137438953472 x) (hsy : sz 137438953472 y) (h : na x * (nd y : Int) ≠ na y * (nd x : Int)) :
    Calls Try.prog 50 #[.agg #[.bool (sn (na x)), .slice A1 (ln (ab (na x))) (ln (ab (na x))), .bool (sn (nb x)), .slice A2 (ln (ab (nb x))) (ln (ab (nb x))), .slice A3 (ln (un x)) (ln (un x))], .agg #[.bool (sn (na y)), .slice B1 (ln (ab (na y))) (ln (ab (na y))), .bool (sn (nb y)), .slice B2 (ln (ab (nb y))) (ln (ab (nb y))), .slice B3 (ln (un y)) (ln (un y))]] w (RetInt w (cmpC x y)) := by
  obtain ⟨hx1, hx2, hx3⟩ := hx
  have HSX := Lib.hid hsx
  clear hsx
  obtain ⟨hy1, hy2, hy3⟩ := hy
  have HSY := Lib.hid hsy
  clear hsy
  have HC := Lib.hid (cmpC_re h).symm
  have t := cmpZ_ne' h
  clear h
  go_enter Try.func50, Try.ntmps50
  go_wp2_with fail
  obtain ⟨W, hW⟩ : ∃ W : World, W = ((w.alloc (.cells #[.bool (sn (na x)), .slice A1 (ln (ab (na x))) (ln (ab (na x))), .bool (sn (nb x)), .slice A2 (ln (ab (nb x))) (ln (ab (nb x))), .slice A3 (ln (un x)) (ln (un x))] 34)).alloc (.cells #[.bool (sn (na y)), .slice B1 (ln (ab (na y))) (ln (ab (na y))), .bool (sn (nb y)), .slice B2 (ln (ab (nb y))) (ln (ab (nb y))), .slice B3 (ln (un y)) (ln (un y))] 34)) := ⟨_, rfl⟩
  have s0_0 : W.cell? ⟨w.heap.size, 0, none⟩ = some (.bool (sn (na x))) := by subst hW; go_simp
  have s0_1 : W.cell? ⟨w.heap.size, 1, none⟩ = some (.slice A1 (ln (ab (na x))) (ln (ab (na x)))) := by subst hW; go_simp
  have s0_2 : W.cell? ⟨w.heap.size, 2, none⟩ = some (.bool (sn (nb x))) := by subst hW; go_simp
  have s0_3 : W.cell? ⟨w.heap.size, 3, none⟩ = some (.slice A2 (ln (ab (nb x))) (ln (ab (nb x)))) := by subst hW; go_simp
  have s0_4 : W.cell? ⟨w.heap.size, 4, none⟩ = some (.slice A3 (ln (un x)) (ln (un x))) := by subst hW; go_simp
  have s1_0 : W.cell? ⟨w.heap.size + 1, 0, none⟩ = some (.bool (sn (na y))) := by subst hW; go_simp
  have s1_1 : W.cell? ⟨w.heap.size + 1, 1, none⟩ = some (.slice B1 (ln (ab (na y))) (ln (ab (na y)))) := by subst hW; go_simp
  have s1_2 : W.cell? ⟨w.heap.size + 1, 2, none⟩ = some (.bool (sn (nb y))) := by subst hW; go_simp
  have s1_3 : W.cell? ⟨w.heap.size + 1, 3, none⟩ = some (.slice B2 (ln (ab (nb y))) (ln (ab (nb y)))) := by subst hW; go_simp
  have s1_4 : W.cell? ⟨w.heap.size + 1, 4, none⟩ = some (.slice B3 (ln (un y)) (ln (un y))) := by subst hW; go_simp
  have HW : Below w.heap.size w W := by subst hW; exact (((Below.refl w.heap.size w).alloc (Nat.le_refl _) _).alloc (by simp) _)
  have l0 : w.heap.size < W.heap.size := by subst hW; simp <;> omega
  have l1 : w.heap.size + 1 < W.heap.size := by subst hW; simp
  replace hx1 := hx1.to HW
  replace hx2 := hx2.to HW
  replace hx3 := hx3.to HW
  replace hy1 := hy1.to HW
  replace hy2 := hy2.to HW
  replace hy3 := hy3.to HW
  rw [← hW]
  clear hW
  replace HW := Lib.hid HW
  go_region_held3 (fun w' => w'.cell? ⟨w.heap.size, 0, none⟩ = some (.bool (sn (na x))) ∧ w'.cell? ⟨w.heap.size, 1, none⟩ = some (.slice A1 (ln (ab (na x))) (ln (ab (na x)))) ∧ w'.cell? ⟨w.heap.size, 2, none⟩ = some (.bool (sn (nb x))) ∧ w'.cell? ⟨w.heap.size, 3, none⟩ = some (.slice A2 (ln (ab (nb x))) (ln (ab (nb x)))) ∧ w'.cell? ⟨w.heap.size, 4, none⟩ = some (.slice A3 (ln (un x)) (ln (un x))) ∧ w'.cell? ⟨w.heap.size + 1, 0, none⟩ = some (.bool (sn (na y))) ∧ w'.cell? ⟨w.heap.size + 1, 1, none⟩ = some (.slice B1 (ln (ab (na y))) (ln (ab (na y)))) ∧ w'.cell? ⟨w.heap.size + 1, 2, none⟩ = some (.bool (sn (nb y))) ∧ w'.cell? ⟨w.heap.size + 1, 3, none⟩ = some (.slice B2 (ln (ab (nb y))) (ln (ab (nb y)))) ∧ w'.cell? ⟨w.heap.size + 1, 4, none⟩ = some (.slice B3 (ln (un y)) (ln (un y)))) (first | with_reducible exact ⟨s0_0, s0_1, s0_2, s0_3, s0_4, s1_0, s1_1, s1_2, s1_3, s1_4⟩ | with_reducible exact ⟨s0_0, s0_1, s0_2, s0_3, s0_4, s1_0, s1_1, s1_2, s1_3, s1_4⟩ | exact ⟨s0_0, s0_1, s0_2, s0_3, s0_4, s1_0, s1_1, s1_2, s1_3, s1_4⟩) (first
    | (go_at_call_of 36 (Value.agg #[.bool (sn (na y)), .slice B1 (ln (ab (na y))) (ln (ab (na y))), .bool (sn (nb y)), .slice B2 (ln (ab (nb y))) (ln (ab (nb y))), .slice B3 (ln (un y)) (ln (un y))]); refine (den_any y B1 B2 B3 _ (by exact num3_mk hy1 hy2 hy3)).mono ?_; rintro e w1 ⟨D1, rfl, h1, hb1⟩; have hb1 := undrew hb1; replace s0_0 := keepc hb1 s0_0 l0; replace s0_1 := keepc hb1 s0_1 l0; replace s0_2 := keepc hb1 s0_2 l0; replace s0_3 := keepc hb1 s0_3 l0; replace s0_4 := keepc hb1 s0_4 l0; replace s1_0 := keepc hb1 s1_0 l1; replace s1_1 := keepc hb1 s1_1 l1; replace s1_2 := keepc hb1 s1_2 l1; replace s1_3 := keepc hb1 s1_3 l1; replace s1_4 := keepc hb1 s1_4 l1; replace l0 := Nat.lt_of_lt_of_le l0 hb1.size; replace l1 := Nat.lt_of_lt_of_le l1 hb1.size; replace hx1 := hx1.to hb1; replace hx2 := hx2.to hb1; replace hx3 := hx3.to hb1; replace hy1 := hy1.to hb1; replace hy2 := hy2.to hb1; replace hy3 := hy3.to hb1; replace HW := Lib.hid (hstep HW hb1); clear hb1)
    | (go_at_call_of 49 (Value.slice A1 (ln (ab (na x))) (ln (ab (na x)))); refine (scaled_any (na x) (nd y) A1 D1 _ (by exact hx1) (by exact h1) (by have := HSX.out; unfold sz at this; omega) (by have := HSY.out; unfold sz at this; omega)).mono ?_; rintro e w2 ⟨S2, rfl, h2, hb2⟩; replace s0_0 := keepc hb2 s0_0 l0; replace s0_1 := keepc hb2 s0_1 l0; replace s0_2 := keepc hb2 s0_2 l0; replace s0_3 := keepc hb2 s0_3 l0; replace s0_4 := keepc hb2 s0_4 l0; replace s1_0 := keepc hb2 s1_0 l1; replace s1_1 := keepc hb2 s1_1 l1; replace s1_2 := keepc hb2 s1_2 l1; replace s1_3 := keepc hb2 s1_3 l1; replace s1_4 := keepc hb2 s1_4 l1; replace l0 := Nat.lt_of_lt_of_le l0 hb2.size; replace l1 := Nat.lt_of_lt_of_le l1 hb2.size; replace hx1 := hx1.to hb2; replace hx2 := hx2.to hb2; replace hx3 := hx3.to hb2; replace hy1 := hy1.to hb2; replace hy2 := hy2.to hb2; replace hy3 := hy3.to hb2; replace h1 := h1.to hb2; replace HW := Lib.hid (hstep HW hb2); clear hb2)
    | (go_at_call_of 36 (Value.agg #[.bool (sn (na x)), .slice A1 (ln (ab (na x))) (ln (ab (na x))), .bool (sn (nb x)), .slice A2 (ln (ab (nb x))) (ln (ab (nb x))), .slice A3 (ln (un x)) (ln (un x))]); refine (den_any x A1 A2 A3 _ (by exact num3_mk hx1 hx2 hx3)).mono ?_; rintro e w3 ⟨D3, rfl, h3, hb3⟩; replace s0_0 := keepc hb3 s0_0 l0; replace s0_1 := keepc hb3 s0_1 l0; replace s0_2 := keepc hb3 s0_2 l0; replace s0_3 := keepc hb3 s0_3 l0; replace s0_4 := keepc hb3 s0_4 l0; replace s1_0 := keepc hb3 s1_0 l1; replace s1_1 := keepc hb3 s1_1 l1; replace s1_2 := keepc hb3 s1_2 l1; replace s1_3 := keepc hb3 s1_3 l1; replace s1_4 := keepc hb3 s1_4 l1; replace l0 := Nat.lt_of_lt_of_le l0 hb3.size; replace l1 := Nat.lt_of_lt_of_le l1 hb3.size; replace hx1 := hx1.to hb3; replace hx2 := hx2.to hb3; replace hx3 := hx3.to hb3; replace hy1 := hy1.to hb3; replace hy2 := hy2.to hb3; replace hy3 := hy3.to hb3; replace h1 := h1.to hb3; replace h2 := h2.to hb3; replace HW := Lib.hid (hstep HW hb3); clear hb3)
    | (go_at_call_of 49 (Value.slice B1 (ln (ab (na y))) (ln (ab (na y)))); refine (scaled_any (na y) (nd x) B1 D3 _ (by exact hy1) (by exact h3) (by have := HSY.out; unfold sz at this; omega) (by have := HSX.out; unfold sz at this; omega)).mono ?_; rintro e w4 ⟨S4, rfl, h4, hb4⟩; replace s0_0 := keepc hb4 s0_0 l0; replace s0_1 := keepc hb4 s0_1 l0; replace s0_2 := keepc hb4 s0_2 l0; replace s0_3 := keepc hb4 s0_3 l0; replace s0_4 := keepc hb4 s0_4 l0; replace s1_0 := keepc hb4 s1_0 l1; replace s1_1 := keepc hb4 s1_1 l1; replace s1_2 := keepc hb4 s1_2 l1; replace s1_3 := keepc hb4 s1_3 l1; replace s1_4 := keepc hb4 s1_4 l1; replace l0 := Nat.lt_of_lt_of_le l0 hb4.size; replace l1 := Nat.lt_of_lt_of_le l1 hb4.size; replace hx1 := hx1.to hb4; replace hx2 := hx2.to hb4; replace hx3 := hx3.to hb4; replace hy1 := hy1.to hb4; replace hy2 := hy2.to hb4; replace hy3 := hy3.to hb4; replace h1 := h1.to hb4; replace h2 := h2.to hb4; replace h3 := h3.to hb4; replace HW := Lib.hid (hstep HW hb4); clear hb4)
    | (go_at_call 38; refine (wcmp_any (na x * (nd y : Int)) (na y * (nd x : Int)) S2 S4 _ (by exact h2) (by exact h4) (by have h := (ab_mul_ln HSX.out.1 (ab_nat_ln HSY.out.2.2)); have h3 := HSX.out; have h4 := HSY.out; unfold sz at h3 h4; omega) (by have h := (ab_mul_ln HSY.out.1 (ab_nat_ln HSX.out.2.2)); have h3 := HSX.out; have h4 := HSY.out; unfold sz at h3 h4; omega)).mono ?_; rintro e w5 ⟨rfl, hb5⟩; replace s0_0 := keepc hb5 s0_0 l0; replace s0_1 := keepc hb5 s0_1 l0; replace s0_2 := keepc hb5 s0_2 l0; replace s0_3 := keepc hb5 s0_3 l0; replace s0_4 := keepc hb5 s0_4 l0; replace s1_0 := keepc hb5 s1_0 l1; replace s1_1 := keepc hb5 s1_1 l1; replace s1_2 := keepc hb5 s1_2 l1; replace s1_3 := keepc hb5 s1_3 l1; replace s1_4 := keepc hb5 s1_4 l1; replace l0 := Nat.lt_of_lt_of_le l0 hb5.size; replace l1 := Nat.lt_of_lt_of_le l1 hb5.size; replace hx1 := hx1.to hb5; replace hx2 := hx2.to hb5; replace hx3 := hx3.to hb5; replace hy1 := hy1.to hb5; replace hy2 := hy2.to hb5; replace hy3 := hy3.to hb5; replace h1 := h1.to hb5; replace h2 := h2.to hb5; replace h3 := h3.to hb5; replace h4 := h4.to hb5; replace HW := Lib.hid (hstep HW hb5); clear hb5))
  go_wp2_with fail
  go_ret
  exact ⟨ret_int HC.out, HW.out⟩
set_option maxHeartbeats 4000000 in
theorem cmpn_im (x y : Cx) (A1 A2 A3 B1 B2 B3 : Option Addr) (w : World) (hx : Num3 w A1 A2 A3 x) (hy : Num3 w B1 B2 B3 y) (hsx : sz 137438953472 x) (hsy : sz 137438953472 y) (h : na x * (nd y : Int) = na y * (nd x : Int)) :
    Calls Try.prog 50 #[.agg #[.bool (sn (na x)), .slice A1 (ln (ab (na x))) (ln (ab (na x))), .bool (sn (nb x)), .slice A2 (ln (ab (nb x))) (ln (ab (nb x))), .slice A3 (ln (un x)) (ln (un x))], .agg #[.bool (sn (na y)), .slice B1 (ln (ab (na y))) (ln (ab (na y))), .bool (sn (nb y)), .slice B2 (ln (ab (nb y))) (ln (ab (nb y))), .slice B3 (ln (un y)) (ln (un y))]] w (RetInt w (cmpC x y)) := by
  obtain ⟨hx1, hx2, hx3⟩ := hx
  have HSX := Lib.hid hsx
  clear hsx
  obtain ⟨hy1, hy2, hy3⟩ := hy
  have HSY := Lib.hid hsy
  clear hsy
  have HC := Lib.hid (cmpC_im h).symm
  have t := cmpZ_eq h
  clear h
  go_enter Try.func50, Try.ntmps50
  go_wp2_with fail
  obtain ⟨W, hW⟩ : ∃ W : World, W = ((w.alloc (.cells #[.bool (sn (na x)), .slice A1 (ln (ab (na x))) (ln (ab (na x))), .bool (sn (nb x)), .slice A2 (ln (ab (nb x))) (ln (ab (nb x))), .slice A3 (ln (un x)) (ln (un x))] 34)).alloc (.cells #[.bool (sn (na y)), .slice B1 (ln (ab (na y))) (ln (ab (na y))), .bool (sn (nb y)), .slice B2 (ln (ab (nb y))) (ln (ab (nb y))), .slice B3 (ln (un y)) (ln (un y))] 34)) := ⟨_, rfl⟩
  have s0_0 : W.cell? ⟨w.heap.size, 0, none⟩ = some (.bool (sn (na x))) := by subst hW; go_simp
  have s0_1 : W.cell? ⟨w.heap.size, 1, none⟩ = some (.slice A1 (ln (ab (na x))) (ln (ab (na x)))) := by subst hW; go_simp
  have s0_2 : W.cell? ⟨w.heap.size, 2, none⟩ = some (.bool (sn (nb x))) := by subst hW; go_simp
  have s0_3 : W.cell? ⟨w.heap.size, 3, none⟩ = some (.slice A2 (ln (ab (nb x))) (ln (ab (nb x)))) := by subst hW; go_simp
  have s0_4 : W.cell? ⟨w.heap.size, 4, none⟩ = some (.slice A3 (ln (un x)) (ln (un x))) := by subst hW; go_simp
  have s1_0 : W.cell? ⟨w.heap.size + 1, 0, none⟩ = some (.bool (sn (na y))) := by subst hW; go_simp
  have s1_1 : W.cell? ⟨w.heap.size + 1, 1, none⟩ = some (.slice B1 (ln (ab (na y))) (ln (ab (na y)))) := by subst hW; go_simp
  have s1_2 : W.cell? ⟨w.heap.size + 1, 2, none⟩ = some (.bool (sn (nb y))) := by subst hW; go_simp
  have s1_3 : W.cell? ⟨w.heap.size + 1, 3, none⟩ = some (.slice B2 (ln (ab (nb y))) (ln (ab (nb y)))) := by subst hW; go_simp
  have s1_4 : W.cell? ⟨w.heap.size + 1, 4, none⟩ = some (.slice B3 (ln (un y)) (ln (un y))) := by subst hW; go_simp
  have HW : Below w.heap.size w W := by subst hW; exact (((Below.refl w.heap.size w).alloc (Nat.le_refl _) _).alloc (by simp) _)
  have l0 : w.heap.size < W.heap.size := by subst hW; simp <;> omega
  have l1 : w.heap.size + 1 < W.heap.size := by subst hW; simp
  replace hx1 := hx1.to HW
  replace hx2 := hx2.to HW
  replace hx3 := hx3.to HW
  replace hy1 := hy1.to HW
  replace hy2 := hy2.to HW
  replace hy3 := hy3.to HW
  rw [← hW]
  clear hW
  replace HW := Lib.hid HW
  go_region_held3 (fun w' => w'.cell? ⟨w.heap.size, 0, none⟩ = some (.bool (sn (na x))) ∧ w'.cell? ⟨w.heap.size, 1, none⟩ = some (.slice A1 (ln (ab (na x))) (ln (ab (na x)))) ∧ w'.cell? ⟨w.heap.size, 2, none⟩ = some (.bool (sn (nb x))) ∧ w'.cell? ⟨w.heap.size, 3, none⟩ = some (.slice A2 (ln (ab (nb x))) (ln (ab (nb x)))) ∧ w'.cell? ⟨w.heap.size, 4, none⟩ = some (.slice A3 (ln (un x)) (ln (un x))) ∧ w'.cell? ⟨w.heap.size + 1, 0, none⟩ = some (.bool (sn (na y))) ∧ w'.cell? ⟨w.heap.size + 1, 1, none⟩ = some (.slice B1 (ln (ab (na y))) (ln (ab (na y)))) ∧ w'.cell? ⟨w.heap.size + 1, 2, none⟩ = some (.bool (sn (nb y))) ∧ w'.cell? ⟨w.heap.size + 1, 3, none⟩ = some (.slice B2 (ln (ab (nb y))) (ln (ab (nb y)))) ∧ w'.cell? ⟨w.heap.size + 1, 4, none⟩ = some (.slice B3 (ln (un y)) (ln (un y)))) (first | with_reducible exact ⟨s0_0, s0_1, s0_2, s0_3, s0_4, s1_0, s1_1, s1_2, s1_3, s1_4⟩ | with_reducible exact ⟨s0_0, s0_1, s0_2, s0_3, s0_4, s1_0, s1_1, s1_2, s1_3, s1_4⟩ | exact ⟨s0_0, s0_1, s0_2, s0_3, s0_4, s1_0, s1_1, s1_2, s1_3, s1_4⟩) (first
    | (go_at_call_of 36 (Value.agg #[.bool (sn (na y)), .slice B1 (ln (ab (na y))) (ln (ab (na y))), .bool (sn (nb y)), .slice B2 (ln (ab (nb y))) (ln (ab (nb y))), .slice B3 (ln (un y)) (ln (un y))]); refine (den_any y B1 B2 B3 _ (by exact num3_mk hy1 hy2 hy3)).mono ?_; rintro e w1 ⟨D1, rfl, h1, hb1⟩; have hb1 := undrew hb1; replace s0_0 := keepc hb1 s0_0 l0; replace s0_1 := keepc hb1 s0_1 l0; replace s0_2 := keepc hb1 s0_2 l0; replace s0_3 := keepc hb1 s0_3 l0; replace s0_4 := keepc hb1 s0_4 l0; replace s1_0 := keepc hb1 s1_0 l1; replace s1_1 := keepc hb1 s1_1 l1; replace s1_2 := keepc hb1 s1_2 l1; replace s1_3 := keepc hb1 s1_3 l1; replace s1_4 := keepc hb1 s1_4 l1; replace l0 := Nat.lt_of_lt_of_le l0 hb1.size; replace l1 := Nat.lt_of_lt_of_le l1 hb1.size; replace hx1 := hx1.to hb1; replace hx2 := hx2.to hb1; replace hx3 := hx3.to hb1; replace hy1 := hy1.to hb1; replace hy2 := hy2.to hb1; replace hy3 := hy3.to hb1; replace HW := Lib.hid (hstep HW hb1); clear hb1)
    | (go_at_call_of 49 (Value.slice A1 (ln (ab (na x))) (ln (ab (na x)))); refine (scaled_any (na x) (nd y) A1 D1 _ (by exact hx1) (by exact h1) (by have := HSX.out; unfold sz at this; omega) (by have := HSY.out; unfold sz at this; omega)).mono ?_; rintro e w2 ⟨S2, rfl, h2, hb2⟩; replace s0_0 := keepc hb2 s0_0 l0; replace s0_1 := keepc hb2 s0_1 l0; replace s0_2 := keepc hb2 s0_2 l0; replace s0_3 := keepc hb2 s0_3 l0; replace s0_4 := keepc hb2 s0_4 l0; replace s1_0 := keepc hb2 s1_0 l1; replace s1_1 := keepc hb2 s1_1 l1; replace s1_2 := keepc hb2 s1_2 l1; replace s1_3 := keepc hb2 s1_3 l1; replace s1_4 := keepc hb2 s1_4 l1; replace l0 := Nat.lt_of_lt_of_le l0 hb2.size; replace l1 := Nat.lt_of_lt_of_le l1 hb2.size; replace hx1 := hx1.to hb2; replace hx2 := hx2.to hb2; replace hx3 := hx3.to hb2; replace hy1 := hy1.to hb2; replace hy2 := hy2.to hb2; replace hy3 := hy3.to hb2; replace h1 := h1.to hb2; replace HW := Lib.hid (hstep HW hb2); clear hb2)
    | (go_at_call_of 36 (Value.agg #[.bool (sn (na x)), .slice A1 (ln (ab (na x))) (ln (ab (na x))), .bool (sn (nb x)), .slice A2 (ln (ab (nb x))) (ln (ab (nb x))), .slice A3 (ln (un x)) (ln (un x))]); refine (den_any x A1 A2 A3 _ (by exact num3_mk hx1 hx2 hx3)).mono ?_; rintro e w3 ⟨D3, rfl, h3, hb3⟩; replace s0_0 := keepc hb3 s0_0 l0; replace s0_1 := keepc hb3 s0_1 l0; replace s0_2 := keepc hb3 s0_2 l0; replace s0_3 := keepc hb3 s0_3 l0; replace s0_4 := keepc hb3 s0_4 l0; replace s1_0 := keepc hb3 s1_0 l1; replace s1_1 := keepc hb3 s1_1 l1; replace s1_2 := keepc hb3 s1_2 l1; replace s1_3 := keepc hb3 s1_3 l1; replace s1_4 := keepc hb3 s1_4 l1; replace l0 := Nat.lt_of_lt_of_le l0 hb3.size; replace l1 := Nat.lt_of_lt_of_le l1 hb3.size; replace hx1 := hx1.to hb3; replace hx2 := hx2.to hb3; replace hx3 := hx3.to hb3; replace hy1 := hy1.to hb3; replace hy2 := hy2.to hb3; replace hy3 := hy3.to hb3; replace h1 := h1.to hb3; replace h2 := h2.to hb3; replace HW := Lib.hid (hstep HW hb3); clear hb3)
    | (go_at_call_of 49 (Value.slice B1 (ln (ab (na y))) (ln (ab (na y)))); refine (scaled_any (na y) (nd x) B1 D3 _ (by exact hy1) (by exact h3) (by have := HSY.out; unfold sz at this; omega) (by have := HSX.out; unfold sz at this; omega)).mono ?_; rintro e w4 ⟨S4, rfl, h4, hb4⟩; replace s0_0 := keepc hb4 s0_0 l0; replace s0_1 := keepc hb4 s0_1 l0; replace s0_2 := keepc hb4 s0_2 l0; replace s0_3 := keepc hb4 s0_3 l0; replace s0_4 := keepc hb4 s0_4 l0; replace s1_0 := keepc hb4 s1_0 l1; replace s1_1 := keepc hb4 s1_1 l1; replace s1_2 := keepc hb4 s1_2 l1; replace s1_3 := keepc hb4 s1_3 l1; replace s1_4 := keepc hb4 s1_4 l1; replace l0 := Nat.lt_of_lt_of_le l0 hb4.size; replace l1 := Nat.lt_of_lt_of_le l1 hb4.size; replace hx1 := hx1.to hb4; replace hx2 := hx2.to hb4; replace hx3 := hx3.to hb4; replace hy1 := hy1.to hb4; replace hy2 := hy2.to hb4; replace hy3 := hy3.to hb4; replace h1 := h1.to hb4; replace h2 := h2.to hb4; replace h3 := h3.to hb4; replace HW := Lib.hid (hstep HW hb4); clear hb4)
    | (go_at_call 38; refine (wcmp_any (na x * (nd y : Int)) (na y * (nd x : Int)) S2 S4 _ (by exact h2) (by exact h4) (by have h := (ab_mul_ln HSX.out.1 (ab_nat_ln HSY.out.2.2)); have h3 := HSX.out; have h4 := HSY.out; unfold sz at h3 h4; omega) (by have h := (ab_mul_ln HSY.out.1 (ab_nat_ln HSX.out.2.2)); have h3 := HSX.out; have h4 := HSY.out; unfold sz at h3 h4; omega)).mono ?_; rintro e w5 ⟨rfl, hb5⟩; replace s0_0 := keepc hb5 s0_0 l0; replace s0_1 := keepc hb5 s0_1 l0; replace s0_2 := keepc hb5 s0_2 l0; replace s0_3 := keepc hb5 s0_3 l0; replace s0_4 := keepc hb5 s0_4 l0; replace s1_0 := keepc hb5 s1_0 l1; replace s1_1 := keepc hb5 s1_1 l1; replace s1_2 := keepc hb5 s1_2 l1; replace s1_3 := keepc hb5 s1_3 l1; replace s1_4 := keepc hb5 s1_4 l1; replace l0 := Nat.lt_of_lt_of_le l0 hb5.size; replace l1 := Nat.lt_of_lt_of_le l1 hb5.size; replace hx1 := hx1.to hb5; replace hx2 := hx2.to hb5; replace hx3 := hx3.to hb5; replace hy1 := hy1.to hb5; replace hy2 := hy2.to hb5; replace hy3 := hy3.to hb5; replace h1 := h1.to hb5; replace h2 := h2.to hb5; replace h3 := h3.to hb5; replace h4 := h4.to hb5; replace HW := Lib.hid (hstep HW hb5); clear hb5))
  go_wp2_with fail
  go_region_held3 (fun w' => w'.cell? ⟨w.heap.size, 0, none⟩ = some (.bool (sn (na x))) ∧ w'.cell? ⟨w.heap.size, 1, none⟩ = some (.slice A1 (ln (ab (na x))) (ln (ab (na x)))) ∧ w'.cell? ⟨w.heap.size, 2, none⟩ = some (.bool (sn (nb x))) ∧ w'.cell? ⟨w.heap.size, 3, none⟩ = some (.slice A2 (ln (ab (nb x))) (ln (ab (nb x)))) ∧ w'.cell? ⟨w.heap.size, 4, none⟩ = some (.slice A3 (ln (un x)) (ln (un x))) ∧ w'.cell? ⟨w.heap.size + 1, 0, none⟩ = some (.bool (sn (na y))) ∧ w'.cell? ⟨w.heap.size + 1, 1, none⟩ = some (.slice B1 (ln (ab (na y))) (ln (ab (na y)))) ∧ w'.cell? ⟨w.heap.size + 1, 2, none⟩ = some (.bool (sn (nb y))) ∧ w'.cell? ⟨w.heap.size + 1, 3, none⟩ = some (.slice B2 (ln (ab (nb y))) (ln (ab (nb y)))) ∧ w'.cell? ⟨w.heap.size + 1, 4, none⟩ = some (.slice B3 (ln (un y)) (ln (un y)))) (first | with_reducible exact ⟨s0_0, s0_1, s0_2, s0_3, s0_4, s1_0, s1_1, s1_2, s1_3, s1_4⟩ | with_reducible exact ⟨s0_0, s0_1, s0_2, s0_3, s0_4, s1_0, s1_1, s1_2, s1_3, s1_4⟩ | exact ⟨s0_0, s0_1, s0_2, s0_3, s0_4, s1_0, s1_1, s1_2, s1_3, s1_4⟩) (first
    | (go_at_call_of 36 (Value.agg #[.bool (sn (na y)), .slice B1 (ln (ab (na y))) (ln (ab (na y))), .bool (sn (nb y)), .slice B2 (ln (ab (nb y))) (ln (ab (nb y))), .slice B3 (ln (un y)) (ln (un y))]); refine (den_any y B1 B2 B3 _ (by exact num3_mk hy1 hy2 hy3)).mono ?_; rintro e w6 ⟨D7, rfl, h7, hb6⟩; have hb6 := undrew hb6; replace s0_0 := keepc hb6 s0_0 l0; replace s0_1 := keepc hb6 s0_1 l0; replace s0_2 := keepc hb6 s0_2 l0; replace s0_3 := keepc hb6 s0_3 l0; replace s0_4 := keepc hb6 s0_4 l0; replace s1_0 := keepc hb6 s1_0 l1; replace s1_1 := keepc hb6 s1_1 l1; replace s1_2 := keepc hb6 s1_2 l1; replace s1_3 := keepc hb6 s1_3 l1; replace s1_4 := keepc hb6 s1_4 l1; replace l0 := Nat.lt_of_lt_of_le l0 hb6.size; replace l1 := Nat.lt_of_lt_of_le l1 hb6.size; replace hx1 := hx1.to hb6; replace hx2 := hx2.to hb6; replace hx3 := hx3.to hb6; replace hy1 := hy1.to hb6; replace hy2 := hy2.to hb6; replace hy3 := hy3.to hb6; replace h1 := h1.to hb6; replace h2 := h2.to hb6; replace h3 := h3.to hb6; replace h4 := h4.to hb6; replace HW := Lib.hid (hstep HW hb6); clear hb6)
    | (go_at_call_of 49 (Value.slice A2 (ln (ab (nb x))) (ln (ab (nb x)))); refine (scaled_any (nb x) (nd y) A2 D7 _ (by exact hx2) (by exact h7) (by have := HSX.out; unfold sz at this; omega) (by have := HSY.out; unfold sz at this; omega)).mono ?_; rintro e w7 ⟨S8, rfl, h8, hb7⟩; replace s0_0 := keepc hb7 s0_0 l0; replace s0_1 := keepc hb7 s0_1 l0; replace s0_2 := keepc hb7 s0_2 l0; replace s0_3 := keepc hb7 s0_3 l0; replace s0_4 := keepc hb7 s0_4 l0; replace s1_0 := keepc hb7 s1_0 l1; replace s1_1 := keepc hb7 s1_1 l1; replace s1_2 := keepc hb7 s1_2 l1; replace s1_3 := keepc hb7 s1_3 l1; replace s1_4 := keepc hb7 s1_4 l1; replace l0 := Nat.lt_of_lt_of_le l0 hb7.size; replace l1 := Nat.lt_of_lt_of_le l1 hb7.size; replace hx1 := hx1.to hb7; replace hx2 := hx2.to hb7; replace hx3 := hx3.to hb7; replace hy1 := hy1.to hb7; replace hy2 := hy2.to hb7; replace hy3 := hy3.to hb7; replace h1 := h1.to hb7; replace h2 := h2.to hb7; replace h3 := h3.to hb7; replace h4 := h4.to hb7; replace h7 := h7.to hb7; replace HW := Lib.hid (hstep HW hb7); clear hb7)
    | (go_at_call_of 36 (Value.agg #[.bool (sn (na x)), .slice A1 (ln (ab (na x))) (ln (ab (na x))), .bool (sn (nb x)), .slice A2 (ln (ab (nb x))) (ln (ab (nb x))), .slice A3 (ln (un x)) (ln (un x))]); refine (den_any x A1 A2 A3 _ (by exact num3_mk hx1 hx2 hx3)).mono ?_; rintro e w8 ⟨D9, rfl, h9, hb8⟩; replace s0_0 := keepc hb8 s0_0 l0; replace s0_1 := keepc hb8 s0_1 l0; replace s0_2 := keepc hb8 s0_2 l0; replace s0_3 := keepc hb8 s0_3 l0; replace s0_4 := keepc hb8 s0_4 l0; replace s1_0 := keepc hb8 s1_0 l1; replace s1_1 := keepc hb8 s1_1 l1; replace s1_2 := keepc hb8 s1_2 l1; replace s1_3 := keepc hb8 s1_3 l1; replace s1_4 := keepc hb8 s1_4 l1; replace l0 := Nat.lt_of_lt_of_le l0 hb8.size; replace l1 := Nat.lt_of_lt_of_le l1 hb8.size; replace hx1 := hx1.to hb8; replace hx2 := hx2.to hb8; replace hx3 := hx3.to hb8; replace hy1 := hy1.to hb8; replace hy2 := hy2.to hb8; replace hy3 := hy3.to hb8; replace h1 := h1.to hb8; replace h2 := h2.to hb8; replace h3 := h3.to hb8; replace h4 := h4.to hb8; replace h7 := h7.to hb8; replace h8 := h8.to hb8; replace HW := Lib.hid (hstep HW hb8); clear hb8)
    | (go_at_call_of 49 (Value.slice B2 (ln (ab (nb y))) (ln (ab (nb y)))); refine (scaled_any (nb y) (nd x) B2 D9 _ (by exact hy2) (by exact h9) (by have := HSY.out; unfold sz at this; omega) (by have := HSX.out; unfold sz at this; omega)).mono ?_; rintro e w9 ⟨S10, rfl, h10, hb9⟩; replace s0_0 := keepc hb9 s0_0 l0; replace s0_1 := keepc hb9 s0_1 l0; replace s0_2 := keepc hb9 s0_2 l0; replace s0_3 := keepc hb9 s0_3 l0; replace s0_4 := keepc hb9 s0_4 l0; replace s1_0 := keepc hb9 s1_0 l1; replace s1_1 := keepc hb9 s1_1 l1; replace s1_2 := keepc hb9 s1_2 l1; replace s1_3 := keepc hb9 s1_3 l1; replace s1_4 := keepc hb9 s1_4 l1; replace l0 := Nat.lt_of_lt_of_le l0 hb9.size; replace l1 := Nat.lt_of_lt_of_le l1 hb9.size; replace hx1 := hx1.to hb9; replace hx2 := hx2.to hb9; replace hx3 := hx3.to hb9; replace hy1 := hy1.to hb9; replace hy2 := hy2.to hb9; replace hy3 := hy3.to hb9; replace h1 := h1.to hb9; replace h2 := h2.to hb9; replace h3 := h3.to hb9; replace h4 := h4.to hb9; replace h7 := h7.to hb9; replace h8 := h8.to hb9; replace h9 := h9.to hb9; replace HW := Lib.hid (hstep HW hb9); clear hb9)
    | (go_at_call 38; refine (wcmp_any (nb x * (nd y : Int)) (nb y * (nd x : Int)) S8 S10 _ (by exact h8) (by exact h10) (by have h := (ab_mul_ln HSX.out.2.1 (ab_nat_ln HSY.out.2.2)); have h3 := HSX.out; have h4 := HSY.out; unfold sz at h3 h4; omega) (by have h := (ab_mul_ln HSY.out.2.1 (ab_nat_ln HSX.out.2.2)); have h3 := HSX.out; have h4 := HSY.out; unfold sz at h3 h4; omega)).mono ?_; rintro e w10 ⟨rfl, hb10⟩; replace s0_0 := keepc hb10 s0_0 l0; replace s0_1 := keepc hb10 s0_1 l0; replace s0_2 := keepc hb10 s0_2 l0; replace s0_3 := keepc hb10 s0_3 l0; replace s0_4 := keepc hb10 s0_4 l0; replace s1_0 := keepc hb10 s1_0 l1; replace s1_1 := keepc hb10 s1_1 l1; replace s1_2 := keepc hb10 s1_2 l1; replace s1_3 := keepc hb10 s1_3 l1; replace s1_4 := keepc hb10 s1_4 l1; replace l0 := Nat.lt_of_lt_of_le l0 hb10.size; replace l1 := Nat.lt_of_lt_of_le l1 hb10.size; replace hx1 := hx1.to hb10; replace hx2 := hx2.to hb10; replace hx3 := hx3.to hb10; replace hy1 := hy1.to hb10; replace hy2 := hy2.to hb10; replace hy3 := hy3.to hb10; replace h1 := h1.to hb10; replace h2 := h2.to hb10; replace h3 := h3.to hb10; replace h4 := h4.to hb10; replace h7 := h7.to hb10; replace h8 := h8.to hb10; replace h9 := h9.to hb10; replace h10 := h10.to hb10; replace HW := Lib.hid (hstep HW hb10); clear hb10))
  go_wp2_with fail
  go_ret
  exact ⟨ret_int HC.out, HW.out⟩
/-- 'x.Cmp(y)'. -/
theorem cmp_num (x y : Cx) (A1 A2 A3 B1 B2 B3 : Option Addr) (w : World) (hx : Num3 w A1 A2 A3 x) (hy : Num3 w B1 B2 B3 y) (hsx : sz 137438953472 x) (hsy : sz 137438953472 y) :
    Calls Try.prog 50 #[.agg #[.bool (sn (na x)), .slice A1 (ln (ab (na x))) (ln (ab (na x))), .bool (sn (nb x)), .slice A2 (ln (ab (nb x))) (ln (ab (nb x))), .slice A3 (ln (un x)) (ln (un x))], .agg #[.bool (sn (na y)), .slice B1 (ln (ab (na y))) (ln (ab (na y))), .bool (sn (nb y)), .slice B2 (ln (ab (nb y))) (ln (ab (nb y))), .slice B3 (ln (un y)) (ln (un y))]] w (RetInt w (cmpC x y)) := by
  by_cases h : na x * (nd y : Int) = na y * (nd x : Int)
  · exact cmpn_im x y A1 A2 A3 B1 B2 B3 w hx hy hsx hsy h
  · exact cmpn_re x y A1 A2 A3 B1 B2 B3 w hx hy hsx hsy h
end Go.Proofs.Ytdpjknjlhchmcaa

namespace Go.Proofs.Ytdpjknjlhchmcaa
open Go.RowKit Pl
set_option linter.unusedVariables false
set_option linter.unusedSimpArgs false
theorem wrap_neg {n : Int} (h1 : -9223372036854775808 ≤ n) (h2 : n < 0) : IntKind.u64.wrap (-IntKind.u64.wrap n) = (ab n : Int) := by
  unfold ab; simp [IntKind.wrap, IntKind.bits, IntKind.signed]; omega
theorem wrap_pos {n : Int} (h1 : n ≤ 9223372036854775807) (h2 : 0 ≤ n) : IntKind.u64.wrap n = (ab n : Int) := by
  unfold ab; simp [IntKind.wrap, IntKind.bits, IntKind.signed]; omega
set_option maxHeartbeats 4000000 in
theorem of64_neg (n : Int) (w : World) (h1 : -9223372036854775808 ≤ n) (h2 : n < 0) :
    Calls Try.prog 56 #[.int .i64 n] w (RetWhole w n) := by
  have E := Lib.hid (wrap_neg h1 h2)
  have B : Hid (ab n < 18446744073709551616) := Lib.hid (by unfold ab; omega)
  have T : Hid (sn n = true) := Lib.hid (by unfold sn; rw [decide_eq_true_eq]; omega)
  have t0 : decide (n < 0) = true := T.out
  clear h1 h2
  go_enter Try.func56, Try.ntmps56
  go_wp2_with fail
  obtain ⟨W, hW⟩ : ∃ W : World, W = (w.alloc (.cells #[.bool false, .slice none 0 0] 32)) := ⟨_, rfl⟩
  have r0 : W.cell? ⟨w.heap.size, 0, none⟩ = some (.bool false) := by subst hW; go_simp
  have f0 : W.frozen? ⟨w.heap.size, 0, none⟩ = false := by subst hW; go_simp
  have r1 : W.cell? ⟨w.heap.size, 1, none⟩ = some (.slice none 0 0) := by subst hW; go_simp
  have f1 : W.frozen? ⟨w.heap.size, 1, none⟩ = false := by subst hW; go_simp
  have HW : Below w.heap.size w W := by subst hW; exact ((Below.refl w.heap.size w).alloc (Nat.le_refl _) _)
  have l0 : w.heap.size < W.heap.size := by subst hW; simp
  rw [← hW]
  clear hW
  replace HW := Lib.hid HW
  rw [E.out]
  refine (natOf_any (ab n) B.out _).mono ?_
  rintro e w1 ⟨A1, rfl, h1, hb1⟩
  replace r0 := keepc hb1 r0 l0
  replace f0 := keepf hb1 f0 l0
  replace r1 := keepc hb1 r1 l0
  replace f1 := keepf hb1 f1 l0
  replace l0 := Nat.lt_of_lt_of_le l0 hb1.size
  replace HW := Lib.hid (hstep HW hb1)
  clear hb1
  go_wp2_with fail
  have t := T.out
  exact bodyPost_ret (v := .agg #[.bool true, .slice A1 (ln (ab n)) (ln (ab n))]) (by simp [results, Try.results56, go_sem, r0, r1, f0, f1]) rfl (by have := retWhole_fin HW h1 (by omega) r0; rw [t] at this; exact this)
set_option maxHeartbeats 4000000 in
theorem of64_pos (n : Int) (w : World) (h1 : n ≤ 9223372036854775807) (h2 : 0 ≤ n) :
    Calls Try.prog 56 #[.int .i64 n] w (RetWhole w n) := by
  have E := Lib.hid (wrap_pos h1 h2)
  have B : Hid (ab n < 18446744073709551616) := Lib.hid (by unfold ab; omega)
  have T : Hid (sn n = false) := Lib.hid (by unfold sn; rw [decide_eq_false_iff_not]; omega)
  have t0 : decide (n < 0) = false := T.out
  clear h1 h2
  go_enter Try.func56, Try.ntmps56
  go_wp2_with fail
  obtain ⟨W, hW⟩ : ∃ W : World, W = (w.alloc (.cells #[.bool false, .slice none 0 0] 32)) := ⟨_, rfl⟩
  have r0 : W.cell? ⟨w.heap.size, 0, none⟩ = some (.bool false) := by subst hW; go_simp
  have f0 : W.frozen? ⟨w.heap.size, 0, none⟩ = false := by subst hW; go_simp
  have r1 : W.cell? ⟨w.heap.size, 1, none⟩ = some (.slice none 0 0) := by subst hW; go_simp
  have f1 : W.frozen? ⟨w.heap.size, 1, none⟩ = false := by subst hW; go_simp
  have HW : Below w.heap.size w W := by subst hW; exact ((Below.refl w.heap.size w).alloc (Nat.le_refl _) _)
  have l0 : w.heap.size < W.heap.size := by subst hW; simp
  rw [← hW]
  clear hW
  replace HW := Lib.hid HW
  rw [E.out]
  refine (natOf_any (ab n) B.out _).mono ?_
  rintro e w1 ⟨A1, rfl, h1, hb1⟩
  replace r0 := keepc hb1 r0 l0
  replace f0 := keepf hb1 f0 l0
  replace r1 := keepc hb1 r1 l0
  replace f1 := keepf hb1 f1 l0
  replace l0 := Nat.lt_of_lt_of_le l0 hb1.size
  replace HW := Lib.hid (hstep HW hb1)
  clear hb1
  go_wp2_with fail
  have t := T.out
  exact bodyPost_ret (v := .agg #[.bool false, .slice A1 (ln (ab n)) (ln (ab n))]) (by simp [results, Try.results56, go_sem, r0, r1, f0, f1]) rfl (by have := retWhole_fin HW h1 (by omega) r0; rw [t] at this; exact this)
/-- 'of64(n)'. -/
theorem of64_any (n : Int) (w : World) (h1 : -9223372036854775808 ≤ n) (h2 : n ≤ 9223372036854775807) :
    Calls Try.prog 56 #[.int .i64 n] w (RetWhole w n) := by
  by_cases h : n < 0
  · exact of64_neg n w h1 h
  · exact of64_pos n w h2 (by omega)
theorem ab_small {n : Int} (h1 : -9223372036854775808 ≤ n) (h2 : n ≤ 9223372036854775807) : ln (ab n) ≤ 2 := ln_le (n := ab n) (k := 2) (by unfold ab; omega)
set_option maxHeartbeats 4000000 in
theorem int_any (n : Int) (w : World) (h1 : -9223372036854775808 ≤ n) (h2 : n ≤ 9223372036854775807) :
    Calls Try.prog 31 #[.int .i64 n] w (RetNum w (Cx.ofInt n)) := by
  have B1 := Lib.hid h1
  have B2 := Lib.hid h2
  clear h1 h2
  obtain ⟨e1, e2, e3⟩ := ofInt_form n
  have E := Lib.hid (And.intro e1 (And.intro e2 (un_one e3)))
  clear e1 e2 e3
  go_enter Try.func31, Try.ntmps31
  go_wp2_with fail
  obtain ⟨W, hW⟩ : ∃ W : World, W = (w.alloc (.cells #[.bool false, .slice none 0 0, .bool false, .slice none 0 0, .slice none 0 0] 34)) := ⟨_, rfl⟩
  have r0 : W.cell? ⟨w.heap.size, 0, none⟩ = some (.bool false) := by subst hW; go_simp
  have f0 : W.frozen? ⟨w.heap.size, 0, none⟩ = false := by subst hW; go_simp
  have r1 : W.cell? ⟨w.heap.size, 1, none⟩ = some (.slice none 0 0) := by subst hW; go_simp
  have f1 : W.frozen? ⟨w.heap.size, 1, none⟩ = false := by subst hW; go_simp
  have r2 : W.cell? ⟨w.heap.size, 2, none⟩ = some (.bool false) := by subst hW; go_simp
  have f2 : W.frozen? ⟨w.heap.size, 2, none⟩ = false := by subst hW; go_simp
  have r3 : W.cell? ⟨w.heap.size, 3, none⟩ = some (.slice none 0 0) := by subst hW; go_simp
  have f3 : W.frozen? ⟨w.heap.size, 3, none⟩ = false := by subst hW; go_simp
  have r4 : W.cell? ⟨w.heap.size, 4, none⟩ = some (.slice none 0 0) := by subst hW; go_simp
  have f4 : W.frozen? ⟨w.heap.size, 4, none⟩ = false := by subst hW; go_simp
  have HW : Below w.heap.size w W := by subst hW; exact ((Below.refl w.heap.size w).alloc (Nat.le_refl _) _)
  have l0 : w.heap.size < W.heap.size := by subst hW; simp
  rw [← hW]
  clear hW
  replace HW := Lib.hid HW
  refine (of64_any n _ B1.out B2.out).mono ?_
  rintro e w1 ⟨A1, rfl, h1, hb1⟩
  replace r0 := keepc hb1 r0 l0
  replace f0 := keepf hb1 f0 l0
  replace r1 := keepc hb1 r1 l0
  replace f1 := keepf hb1 f1 l0
  replace r2 := keepc hb1 r2 l0
  replace f2 := keepf hb1 f2 l0
  replace r3 := keepc hb1 r3 l0
  replace f3 := keepf hb1 f3 l0
  replace r4 := keepc hb1 r4 l0
  replace f4 := keepf hb1 f4 l0
  replace l0 := Nat.lt_of_lt_of_le l0 hb1.size
  replace HW := Lib.hid (hstep HW hb1)
  clear hb1
  go_wp2_with fail
  refine bodyPost_ret (v := .agg #[.bool (sn n), .slice A1 (ln (ab n)) (ln (ab n)), .bool false, .slice none 0 0, .slice none 0 0]) (by simp [results, Try.results31, go_sem, r0, r1, r2, r3, r4, f0, f1, f2, f3, f4]) rfl ?_
  have h := retNum_fin (q := Cx.ofInt n) (A1 := A1) (A2 := none) (A3 := none) HW ⟨by rw [E.out.1]; exact h1, by rw [E.out.2.1]; exact fun e => absurd rfl e, by rw [E.out.2.2]; exact fun e => absurd rfl e⟩ (by omega) r0
  rw [E.out.1, E.out.2.1, E.out.2.2, sn_zero, show ab 0 = 0 from rfl, ln_zero] at h
  exact h
end Go.Proofs.Ytdpjknjlhchmcaa

namespace Go.Proofs.Ytdpjknjlhchmcaa
open Go.RowKit Pl
set_option linter.unusedVariables false
set_option linter.unusedSimpArgs false
/-- A call hands back a number and an error number. -/
def RetNumE (w : World) (c : Int) (q : Cx) (e : Ending) (w' : World) : Prop := ∃ A1 A2 A3, e = .returned (.tuple #[.agg #[.bool (sn (na q)), .slice A1 (ln (ab (na q))) (ln (ab (na q))), .bool (sn (nb q)), .slice A2 (ln (ab (nb q))) (ln (ab (nb q))), .slice A3 (ln (un q)) (ln (un q))], .int .i64 c]) ∧ Num3 w' A1 A2 A3 q ∧ Below w.heap.size w w'
theorem ret_and {a b c : Value} (h : Ending.returned a = .returned b) : Ending.returned (.tuple #[a, c]) = .returned (.tuple #[b, c]) := by injection h with h; rw [h]
theorem retNumE_fin {w W : World} {q : Cx} {A1 A2 A3 : Option Addr} {R : Nat} {c : Bool} {k : Int} (hB : Hid (Below w.heap.size w W)) (h1 : Num3 W A1 A2 A3 q) (hR : w.heap.size ≤ R) (r0 : W.cell? ⟨R, 0, none⟩ = some (.bool c)) :
    RetNumE w k q (.returned (.tuple #[.agg #[.bool (sn (na q)), .slice A1 (ln (ab (na q))) (ln (ab (na q))), .bool (sn (nb q)), .slice A2 (ln (ab (nb q))) (ln (ab (nb q))), .slice A3 (ln (un q)) (ln (un q))], .int .i64 k]))
      (((((W.setCell ⟨R, 0, none⟩ (.bool (sn (na q)))).setCell ⟨R, 1, none⟩ (.slice A1 (ln (ab (na q))) (ln (ab (na q))))).setCell ⟨R, 2, none⟩ (.bool (sn (nb q)))).setCell ⟨R, 3, none⟩ (.slice A2 (ln (ab (nb q))) (ln (ab (nb q))))).setCell ⟨R, 4, none⟩ (.slice A3 (ln (un q)) (ln (un q)))) := by
  obtain ⟨B1, B2, B3, e, h⟩ := retNum_fin (A1 := A1) (A2 := A2) (A3 := A3) hB h1 hR r0
  exact ⟨B1, B2, B3, ret_and e, h⟩
theorem zero_form : na Cx.zero = 0 ∧ nb Cx.zero = 0 ∧ un Cx.zero = 0 := by
  obtain ⟨e1, e2, e3⟩ := ofInt_form 0
  exact ⟨e1, e2, un_one e3⟩
theorem norm_ne {y : Cx} (h0 : y ≠ Cx.zero) : ab (na y * na y + nb y * nb y) ≠ 0 := by
  intro h
  have h1 : na y * na y + nb y * nb y = 0 := by unfold ab at h; omega
  have ha : 0 ≤ na y * na y := by rcases Int.le_total 0 (na y) with h | h; exact Int.mul_nonneg h h; exact Int.mul_nonneg_of_nonpos_of_nonpos h h
  have hb : 0 ≤ nb y * nb y := by rcases Int.le_total 0 (nb y) with h | h; exact Int.mul_nonneg h h; exact Int.mul_nonneg_of_nonpos_of_nonpos h h
  have ea : na y = 0 := by rcases Int.mul_eq_zero.1 (show na y * na y = 0 by omega) with h | h <;> exact h
  have eb : nb y = 0 := by rcases Int.mul_eq_zero.1 (show nb y * nb y = 0 by omega) with h | h <;> exact h
  exact h0 ((zero_iff y).1 ⟨ea, eb⟩)
theorem div_ne (x : Cx) {y : Cx} (h0 : y ≠ Cx.zero) : nd (x.mul (fr (na y) (-nb y) 1)) * ab (na y * na y + nb y * nb y) ≠ 0 := Nat.mul_ne_zero (nd_ne0 _) (norm_ne h0)
theorem ab_norm (y : Cx) : ((ab (na y * na y + nb y * nb y) : Nat) : Rat) = Cx.nrm y * (nd y : Rat) * (nd y : Rat) := by
  have ha : 0 ≤ na y * na y := by rcases Int.le_total 0 (na y) with h | h; exact Int.mul_nonneg h h; exact Int.mul_nonneg_of_nonpos_of_nonpos h h
  have hb : 0 ≤ nb y * nb y := by rcases Int.le_total 0 (nb y) with h | h; exact Int.mul_nonneg h h; exact Int.mul_nonneg_of_nonpos_of_nonpos h h
  have e : ((ab (na y * na y + nb y * nb y) : Nat) : Int) = na y * na y + nb y * nb y := by unfold ab; omega
  have e2 : ((ab (na y * na y + nb y * nb y) : Nat) : Rat) = (na y : Rat) * (na y : Rat) + (nb y : Rat) * (nb y : Rat) := by
    rw [← Rat.intCast_natCast, e, Rat.intCast_add, Rat.intCast_mul, Rat.intCast_mul]
  rw [e2, na_eq, nb_eq]; unfold Cx.nrm; grind
theorem div_fr (x : Cx) {y : Cx} (h0 : y ≠ Cx.zero) : fr (na (x.mul (fr (na y) (-nb y) 1)) * (nd y : Int)) (nb (x.mul (fr (na y) (-nb y) 1)) * (nd y : Int)) (nd (x.mul (fr (na y) (-nb y) 1)) * ab (na y * na y + nb y * nb y)) = x.div y := by
  have hn := ab_norm y
  have h1 : ((ab (na y * na y + nb y * nb y) : Nat) : Rat) ≠ 0 := by
    intro h; exact norm_ne h0 (by exact_mod_cast h)
  have hr : Cx.nrm y ≠ 0 := by intro h; rw [h] at hn; grind
  have hz1 : (x.mul (fr (na y) (-nb y) 1)).re = (x.re * y.re + x.im * y.im) * (nd y : Rat) := by
    simp only [Cx.mul, fr, Rat.intCast_neg, na_eq, nb_eq]; grind
  have hz2 : (x.mul (fr (na y) (-nb y) 1)).im = (x.im * y.re - x.re * y.im) * (nd y : Rat) := by
    simp only [Cx.mul, fr, Rat.intCast_neg, na_eq, nb_eq]; grind
  have k1 := na_eq (x.mul (fr (na y) (-nb y) 1))
  have k2 := nb_eq (x.mul (fr (na y) (-nb y) 1))
  rw [hz1] at k1
  rw [hz2] at k2
  refine fr_eq (Nat.pos_of_ne_zero (div_ne x h0)) ?_ ?_
  · rw [Rat.intCast_mul, k1, Rat.natCast_mul, hn, Rat.intCast_natCast]; simp only [Cx.div]; grind
  · rw [Rat.intCast_mul, k2, Rat.natCast_mul, hn, Rat.intCast_natCast]; simp only [Cx.div]; grind
/-- A new slice of the one word 1. -/
theorem nat1_new (V : World) (T : TypeId) : Nat32 (V.alloc (.cells #[.int .u32 1] T)) (some ⟨V.heap.size, 0, none⟩) 1 := fun _ => ⟨V.heap.size, rfl, by simp, fun j hj => by
  rw [ln_one] at hj; obtain rfl : j = 0 := by omega
  rw [show wd 1 0 = 1 by rw [wd_0]]
  go_simp⟩
/-- 'over(re, im, nat{1})'. -/
theorem over1_any (a b : Int) (A B D : Option Addr) (w : World) (hx : Nat32 w A (ab a)) (hy : Nat32 w B (ab b)) (hd : Nat32 w D 1) (hbx : ln (ab a) ≤ 1099511627776) (hby : ln (ab b) ≤ 1099511627776) :
    Calls Try.prog 35 #[.agg #[.bool (sn (a)), .slice A (ln (ab (a))) (ln (ab (a)))], .agg #[.bool (sn (b)), .slice B (ln (ab (b))) (ln (ab (b)))], .slice D 1 1] w (RetNum w (fr a b 1)) := by
  have h := over_any a b 1 A B D w hx hy hd hbx hby (by rw [ln_one]; omega) (by omega)
  rw [ln_one] at h
  exact h
/-- The cells of a number. -/
def Cells5 (w : World) (g : Nat) (q : Cx) (A1 A2 A3 : Option Addr) : Prop := w.cell? ⟨g, 0, none⟩ = some (.bool (sn (na q))) ∧ w.cell? ⟨g, 1, none⟩ = some (.slice A1 (ln (ab (na q))) (ln (ab (na q)))) ∧ w.cell? ⟨g, 2, none⟩ = some (.bool (sn (nb q))) ∧ w.cell? ⟨g, 3, none⟩ = some (.slice A2 (ln (ab (nb q))) (ln (ab (nb q)))) ∧ w.cell? ⟨g, 4, none⟩ = some (.slice A3 (ln (un q)) (ln (un q)))
/-- A local variable that holds a number. -/
def VarNum (W : World) (q : Cx) (p : Value) (wx : World) : Prop := ∃ g A1 A2 A3, p = .pointer (some ⟨g, 0, none⟩) ∧ Cells5 wx g q A1 A2 A3 ∧ Num3 wx A1 A2 A3 q ∧ W.heap.size ≤ g ∧ g < wx.heap.size ∧ Below W.heap.size W wx
theorem keepd {w : World} {b i : Nat} {v : Value} (h : w.cell? ⟨b, i, none⟩ = some v) : w.drew.cell? ⟨b, i, none⟩ = some v := h
theorem lta {w : World} {o : Obj} {b : Nat} (h : b < w.heap.size) : b < (w.alloc o).heap.size := by simp; omega
theorem newnat {V w1 : World} {T : TypeId} (h : Below (V.alloc (.cells #[.int .u32 1] T)).heap.size (V.alloc (.cells #[.int .u32 1] T)) w1) : Nat32 w1 (some ⟨V.heap.size, 0, none⟩) 1 := (nat1_new V T).to h
theorem newnat1 {V w1 : World} {o : Obj} {T : TypeId} (h : Below ((V.alloc o).alloc (.cells #[.int .u32 1] T)).heap.size ((V.alloc o).alloc (.cells #[.int .u32 1] T)) w1) : Nat32 w1 (some ⟨V.heap.size + 1, 0, none⟩) 1 := by
  have := newnat h; simpa using this
theorem nat1_new1 (V : World) (o : Obj) (T : TypeId) : Nat32 ((V.alloc o).alloc (.cells #[.int .u32 1] T)) (some ⟨V.heap.size + 1, 0, none⟩) 1 := by
  have := nat1_new (V.alloc o) T; simpa using this
/-- A new variable for a number, made at or above the block B. -/
def NewVarN (B g : Nat) (w : World) : Prop := B ≤ g ∧ g < w.heap.size ∧ (w.cell? ⟨g, 0, none⟩ = some (.bool false) ∧ w.cell? ⟨g, 1, none⟩ = some (.slice none 0 0) ∧ w.cell? ⟨g, 2, none⟩ = some (.bool false) ∧ w.cell? ⟨g, 3, none⟩ = some (.slice none 0 0) ∧ w.cell? ⟨g, 4, none⟩ = some (.slice none 0 0)) ∧ (w.frozen? ⟨g, 0, none⟩ = false ∧ w.frozen? ⟨g, 1, none⟩ = false ∧ w.frozen? ⟨g, 2, none⟩ = false ∧ w.frozen? ⟨g, 3, none⟩ = false ∧ w.frozen? ⟨g, 4, none⟩ = false)
theorem NewVarN.to {B g : Nat} {w w' : World} (h : NewVarN B g w) (hb : Below w.heap.size w w') : NewVarN B g w' :=
  by
  obtain ⟨h1, h2, ⟨c0, c1, c2, c3, c4⟩, f0, f1, f2, f3, f4⟩ := h
  exact ⟨h1, Nat.lt_of_lt_of_le h2 hb.size, ⟨keepc hb c0 h2, keepc hb c1 h2, keepc hb c2 h2, keepc hb c3 h2, keepc hb c4 h2⟩, keepf hb f0 h2, keepf hb f1 h2, keepf hb f2 h2, keepf hb f3 h2, keepf hb f4 h2⟩
theorem newvarN {V w1 : World} {T : TypeId} (h : Below (V.alloc (.cells #[.bool false, .slice none 0 0, .bool false, .slice none 0 0, .slice none 0 0] T)).heap.size (V.alloc (.cells #[.bool false, .slice none 0 0, .bool false, .slice none 0 0, .slice none 0 0] T)) w1) : NewVarN V.heap.size V.heap.size w1 :=
  NewVarN.to ⟨Nat.le_refl _, by simp, ⟨by go_simp, by go_simp, by go_simp, by go_simp, by go_simp⟩, by go_simp, by go_simp, by go_simp, by go_simp, by go_simp⟩ h
theorem newvarN1 {V w1 : World} {o : Obj} {T : TypeId} (h : Below ((V.alloc o).alloc (.cells #[.bool false, .slice none 0 0, .bool false, .slice none 0 0, .slice none 0 0] T)).heap.size ((V.alloc o).alloc (.cells #[.bool false, .slice none 0 0, .bool false, .slice none 0 0, .slice none 0 0] T)) w1) : NewVarN V.heap.size (V.heap.size + 1) w1 := by
  obtain ⟨a, b⟩ := newvarN h
  simp only [World.size_alloc] at a b
  exact ⟨by omega, b⟩
theorem num3_alloc {w : World} {A1 A2 A3 : Option Addr} {q : Cx} {o : Obj} (h : Num3 w A1 A2 A3 q) : Num3 (w.alloc o) A1 A2 A3 q := ⟨h.1.alloc _, h.2.1.alloc _, h.2.2.alloc _⟩
theorem varNum_set {W wn : World} {q : Cx} {g B : Nat} {A1 A2 A3 : Option Addr} (K : Below W.heap.size W wn) (n : NewVarN B g wn) (hg : W.heap.size ≤ g) (h : Num3 wn A1 A2 A3 q) :
    VarNum W q (.pointer (some ⟨g, 0, none⟩)) (((((wn.setCell ⟨g, 0, none⟩ (.bool (sn (na q)))).setCell ⟨g, 1, none⟩ (.slice A1 (ln (ab (na q))) (ln (ab (na q))))).setCell ⟨g, 2, none⟩ (.bool (sn (nb q)))).setCell ⟨g, 3, none⟩ (.slice A2 (ln (ab (nb q))) (ln (ab (nb q))))).setCell ⟨g, 4, none⟩ (.slice A3 (ln (un q)) (ln (un q)))) := by
  obtain ⟨_, hl, ⟨c0, c1, c2, c3, c4⟩, _⟩ := n
  obtain ⟨D1, D2, D3, e, h3, hb⟩ := retNum_fin (q := q) (A1 := A1) (A2 := A2) (A3 := A3) (Lib.hid K) h hg c0
  injection e with e
  simp only [Value.agg.injEq, Array.mk.injEq, List.cons.injEq, Value.slice.injEq, and_true, true_and] at e
  obtain ⟨rfl, rfl, rfl⟩ := e
  have o0 := cell_self (u := .bool (sn (na q))) c0
  refine ⟨g, A1, A2, A3, rfl, ⟨?_, ?_, ?_, ?_, ?_⟩, h3, hg, by simpa [World.setCell] using hl, hb⟩
  · exact keepo (keepo (keepo (keepo o0 (by omega)) (by omega)) (by omega)) (by omega)
  · exact keepo (keepo (keepo (cell_self (keepo c1 (by omega))) (by omega)) (by omega)) (by omega)
  · exact keepo (keepo (cell_self (keepo (keepo c2 (by omega)) (by omega))) (by omega)) (by omega)
  · exact keepo (cell_self (keepo (keepo (keepo c3 (by omega)) (by omega)) (by omega))) (by omega)
  · exact cell_self (keepo (keepo (keepo (keepo c4 (by omega)) (by omega)) (by omega)) (by omega))
theorem varNum_new {W wn : World} {q : Cx} {A1 A2 A3 : Option Addr} {T : TypeId} (K : Below W.heap.size W wn) (h : Num3 wn A1 A2 A3 q) :
    VarNum W q (.pointer (some ⟨wn.heap.size, 0, none⟩)) (wn.alloc (.cells #[.bool (sn (na q)), .slice A1 (ln (ab (na q))) (ln (ab (na q))), .bool (sn (nb q)), .slice A2 (ln (ab (nb q))) (ln (ab (nb q))), .slice A3 (ln (un q)) (ln (un q))] T)) :=
  ⟨wn.heap.size, A1, A2, A3, rfl, ⟨by go_simp, by go_simp, by go_simp, by go_simp, by go_simp⟩, ⟨h.1.alloc _, h.2.1.alloc _, h.2.2.alloc _⟩, K.size, by simp, K.alloc K.size _⟩
set_option maxHeartbeats 4000000 in
theorem div_num0 (x y : Cx) (A1 A2 A3 B1 B2 B3 : Option Addr) (w : World) (hx : Num3 w A1 A2 A3 x) (hy : Num3 w B1 B2 B3 y) (hsx : sz 137438953472 x) (hsy : sz 137438953472 y) (h0 : y ≠ Cx.zero) :
    Calls Try.prog 40 #[.agg #[.bool (sn (na x)), .slice A1 (ln (ab (na x))) (ln (ab (na x))), .bool (sn (nb x)), .slice A2 (ln (ab (nb x))) (ln (ab (nb x))), .slice A3 (ln (un x)) (ln (un x))], .agg #[.bool (sn (na y)), .slice B1 (ln (ab (na y))) (ln (ab (na y))), .bool (sn (nb y)), .slice B2 (ln (ab (nb y))) (ln (ab (nb y))), .slice B3 (ln (un y)) (ln (un y))]] w (RetNumE w 0 (x.div y)) := by
  obtain ⟨hx1, hx2, hx3⟩ := hx
  have HSX := Lib.hid hsx
  clear hsx
  obtain ⟨hy1, hy2, hy3⟩ := hy
  have HSY := Lib.hid hsy
  clear hsy
  have t : decide (y = Cx.zero) = false := decide_eq_false h0
  have HN := Lib.hid (div_ne x h0)
  rw [← div_fr x h0]
  clear h0
  go_enter Try.func40, Try.ntmps40
  go_wp2_with fail
  obtain ⟨W, hW⟩ : ∃ W : World, W = (((w.alloc (.cells #[.bool (sn (na x)), .slice A1 (ln (ab (na x))) (ln (ab (na x))), .bool (sn (nb x)), .slice A2 (ln (ab (nb x))) (ln (ab (nb x))), .slice A3 (ln (un x)) (ln (un x))] 34)).alloc (.cells #[.bool (sn (na y)), .slice B1 (ln (ab (na y))) (ln (ab (na y))), .bool (sn (nb y)), .slice B2 (ln (ab (nb y))) (ln (ab (nb y))), .slice B3 (ln (un y)) (ln (un y))] 34)).alloc (.cells #[.bool false, .slice none 0 0, .bool false, .slice none 0 0, .slice none 0 0] 34)) := ⟨_, rfl⟩
  have s0_0 : W.cell? ⟨w.heap.size, 0, none⟩ = some (.bool (sn (na x))) := by subst hW; go_simp
  have s0_1 : W.cell? ⟨w.heap.size, 1, none⟩ = some (.slice A1 (ln (ab (na x))) (ln (ab (na x)))) := by subst hW; go_simp
  have s0_2 : W.cell? ⟨w.heap.size, 2, none⟩ = some (.bool (sn (nb x))) := by subst hW; go_simp
  have s0_3 : W.cell? ⟨w.heap.size, 3, none⟩ = some (.slice A2 (ln (ab (nb x))) (ln (ab (nb x)))) := by subst hW; go_simp
  have s0_4 : W.cell? ⟨w.heap.size, 4, none⟩ = some (.slice A3 (ln (un x)) (ln (un x))) := by subst hW; go_simp
  have s1_0 : W.cell? ⟨w.heap.size + 1, 0, none⟩ = some (.bool (sn (na y))) := by subst hW; go_simp
  have s1_1 : W.cell? ⟨w.heap.size + 1, 1, none⟩ = some (.slice B1 (ln (ab (na y))) (ln (ab (na y)))) := by subst hW; go_simp
  have s1_2 : W.cell? ⟨w.heap.size + 1, 2, none⟩ = some (.bool (sn (nb y))) := by subst hW; go_simp
  have s1_3 : W.cell? ⟨w.heap.size + 1, 3, none⟩ = some (.slice B2 (ln (ab (nb y))) (ln (ab (nb y)))) := by subst hW; go_simp
  have s1_4 : W.cell? ⟨w.heap.size + 1, 4, none⟩ = some (.slice B3 (ln (un y)) (ln (un y))) := by subst hW; go_simp
  have r0 : W.cell? ⟨w.heap.size + 1 + 1, 0, none⟩ = some (.bool false) := by subst hW; go_simp
  have f0 : W.frozen? ⟨w.heap.size + 1 + 1, 0, none⟩ = false := by subst hW; go_simp
  have r1 : W.cell? ⟨w.heap.size + 1 + 1, 1, none⟩ = some (.slice none 0 0) := by subst hW; go_simp
  have f1 : W.frozen? ⟨w.heap.size + 1 + 1, 1, none⟩ = false := by subst hW; go_simp
  have r2 : W.cell? ⟨w.heap.size + 1 + 1, 2, none⟩ = some (.bool false) := by subst hW; go_simp
  have f2 : W.frozen? ⟨w.heap.size + 1 + 1, 2, none⟩ = false := by subst hW; go_simp
  have r3 : W.cell? ⟨w.heap.size + 1 + 1, 3, none⟩ = some (.slice none 0 0) := by subst hW; go_simp
  have f3 : W.frozen? ⟨w.heap.size + 1 + 1, 3, none⟩ = false := by subst hW; go_simp
  have r4 : W.cell? ⟨w.heap.size + 1 + 1, 4, none⟩ = some (.slice none 0 0) := by subst hW; go_simp
  have f4 : W.frozen? ⟨w.heap.size + 1 + 1, 4, none⟩ = false := by subst hW; go_simp
  have HW : Below w.heap.size w W := by subst hW; exact ((((Below.refl w.heap.size w).alloc (Nat.le_refl _) _).alloc (by simp) _).alloc (by simp; omega) _)
  have l0 : w.heap.size < W.heap.size := by subst hW; simp <;> omega
  have l1 : w.heap.size + 1 < W.heap.size := by subst hW; simp <;> omega
  have l2 : w.heap.size + 1 + 1 < W.heap.size := by subst hW; simp
  have n0 : w.heap.size ≠ w.heap.size + 1 + 1 := by omega
  have n1 : w.heap.size + 1 ≠ w.heap.size + 1 + 1 := by omega
  replace hx1 := hx1.to HW
  replace hx2 := hx2.to HW
  replace hx3 := hx3.to HW
  replace hy1 := hy1.to HW
  replace hy2 := hy2.to HW
  replace hy3 := hy3.to HW
  rw [← hW]
  clear hW
  replace HW := Lib.hid HW
  refine (clear_any y B1 B2 B3 _ (by exact num3_mk hy1 hy2 hy3) (sz.mono HSY.out (by omega))).mono ?_
  rintro e w1 ⟨rfl, hb1⟩
  replace s0_0 := keepc hb1 s0_0 l0
  replace s0_1 := keepc hb1 s0_1 l0
  replace s0_2 := keepc hb1 s0_2 l0
  replace s0_3 := keepc hb1 s0_3 l0
  replace s0_4 := keepc hb1 s0_4 l0
  replace s1_0 := keepc hb1 s1_0 l1
  replace s1_1 := keepc hb1 s1_1 l1
  replace s1_2 := keepc hb1 s1_2 l1
  replace s1_3 := keepc hb1 s1_3 l1
  replace s1_4 := keepc hb1 s1_4 l1
  replace r0 := keepc hb1 r0 l2
  replace f0 := keepf hb1 f0 l2
  replace r1 := keepc hb1 r1 l2
  replace f1 := keepf hb1 f1 l2
  replace r2 := keepc hb1 r2 l2
  replace f2 := keepf hb1 f2 l2
  replace r3 := keepc hb1 r3 l2
  replace f3 := keepf hb1 f3 l2
  replace r4 := keepc hb1 r4 l2
  replace f4 := keepf hb1 f4 l2
  replace l0 := Nat.lt_of_lt_of_le l0 hb1.size
  replace l1 := Nat.lt_of_lt_of_le l1 hb1.size
  replace l2 := Nat.lt_of_lt_of_le l2 hb1.size
  replace hx1 := hx1.to hb1
  replace hx2 := hx2.to hb1
  replace hx3 := hx3.to hb1
  replace hy1 := hy1.to hb1
  replace hy2 := hy2.to hb1
  replace hy3 := hy3.to hb1
  replace HW := Lib.hid (hstep HW hb1)
  clear hb1
  go_upto_region 3 with fail
  go_cut [6] (fun p wx => VarWhole w1 (na y * na y + nb y * nb y) p wx)
  case first =>
    have gB : Hid (Below w1.heap.size w1 w1) := Lib.hid (Below.refl _ _)
    go_region_held3 (fun w' => w'.cell? ⟨w.heap.size + 1, 0, none⟩ = some (.bool (sn (na y))) ∧ w'.cell? ⟨w.heap.size + 1, 1, none⟩ = some (.slice B1 (ln (ab (na y))) (ln (ab (na y)))) ∧ w'.cell? ⟨w.heap.size + 1, 2, none⟩ = some (.bool (sn (nb y))) ∧ w'.cell? ⟨w.heap.size + 1, 3, none⟩ = some (.slice B2 (ln (ab (nb y))) (ln (ab (nb y))))) (first | with_reducible exact ⟨s1_0, s1_1, s1_2, s1_3⟩ | with_reducible exact ⟨(keepa s1_0 l1), (keepa s1_1 l1), (keepa s1_2 l1), (keepa s1_3 l1)⟩ | with_reducible exact ⟨(keeps (keeps s1_0 gn1) gn1), (keeps (keeps s1_1 gn1) gn1), (keeps (keeps s1_2 gn1) gn1), (keeps (keeps s1_3 gn1) gn1)⟩ | exact ⟨s1_0, s1_1, s1_2, s1_3⟩ | exact ⟨(keepa s1_0 l1), (keepa s1_1 l1), (keepa s1_2 l1), (keepa s1_3 l1)⟩) (first
      | (go_at_call_of 32 (Value.slice B1 (ln (ab (na y))) (ln (ab (na y)))); refine (times_any (na y) (na y) B1 B1 _ (by first | with_reducible exact hy1 | with_reducible exact hy1.alloc _ | exact hy1 | exact hy1.alloc _) (by first | with_reducible exact hy1 | with_reducible exact hy1.alloc _ | exact hy1 | exact hy1.alloc _) (by have := HSY.out; unfold sz at this; omega) (by have := HSY.out; unfold sz at this; omega)).mono ?_; rintro e w2 ⟨S2, rfl, h2, ha2⟩; have hb2 : Below w1.heap.size w1 w2 := (by first | with_reducible exact ha2 | with_reducible exact undrew ha2 | with_reducible exact unalloc ha2 | with_reducible exact undrewalloc ha2 | with_reducible exact undrew (unalloc ha2)); (try replace ga0 := keepc hb2 ga0 gl); (try replace ga1 := keepc hb2 ga1 gl); (try replace gf0 := keepf hb2 gf0 gl); (try replace gf1 := keepf hb2 gf1 gl); (try replace gl := Nat.lt_of_lt_of_le gl hb2.size); (try (have gx := (by first | with_reducible exact newvar ha2 | with_reducible exact newvard ha2 | with_reducible exact newvare ha2 : NewVar w1 w2); have ga0 := gx.1; have ga1 := gx.2.1; have gf0 := gx.2.2.1; have gf1 := gx.2.2.2.1; have gl := gx.2.2.2.2; have gge := gB.out.size; have gn0 := Nat.ne_of_lt l0; have gn1 := Nat.ne_of_lt l1; have gn2 := Nat.ne_of_lt l2; clear gx)); replace gB := Lib.hid (onto gB.out hb2); replace s0_0 := keepc hb2 s0_0 l0; replace s0_1 := keepc hb2 s0_1 l0; replace s0_2 := keepc hb2 s0_2 l0; replace s0_3 := keepc hb2 s0_3 l0; replace s0_4 := keepc hb2 s0_4 l0; replace s1_0 := keepc hb2 s1_0 l1; replace s1_1 := keepc hb2 s1_1 l1; replace s1_2 := keepc hb2 s1_2 l1; replace s1_3 := keepc hb2 s1_3 l1; replace s1_4 := keepc hb2 s1_4 l1; replace r0 := keepc hb2 r0 l2; replace f0 := keepf hb2 f0 l2; replace r1 := keepc hb2 r1 l2; replace f1 := keepf hb2 f1 l2; replace r2 := keepc hb2 r2 l2; replace f2 := keepf hb2 f2 l2; replace r3 := keepc hb2 r3 l2; replace f3 := keepf hb2 f3 l2; replace r4 := keepc hb2 r4 l2; replace f4 := keepf hb2 f4 l2; replace l0 := Nat.lt_of_lt_of_le l0 hb2.size; replace l1 := Nat.lt_of_lt_of_le l1 hb2.size; replace l2 := Nat.lt_of_lt_of_le l2 hb2.size; replace hx1 := hx1.to hb2; replace hx2 := hx2.to hb2; replace hx3 := hx3.to hb2; replace hy1 := hy1.to hb2; replace hy2 := hy2.to hb2; replace hy3 := hy3.to hb2; replace HW := Lib.hid (hstep HW hb2); clear hb2; clear ha2)
      | (go_at_call_of 32 (Value.slice B2 (ln (ab (nb y))) (ln (ab (nb y)))); refine (times_any (nb y) (nb y) B2 B2 _ (by first | with_reducible exact hy2 | with_reducible exact hy2.alloc _ | exact hy2 | exact hy2.alloc _) (by first | with_reducible exact hy2 | with_reducible exact hy2.alloc _ | exact hy2 | exact hy2.alloc _) (by have := HSY.out; unfold sz at this; omega) (by have := HSY.out; unfold sz at this; omega)).mono ?_; rintro e w3 ⟨S3, rfl, h3, ha3⟩; have hb3 : Below w2.heap.size w2 w3 := (by first | with_reducible exact ha3 | with_reducible exact undrew ha3 | with_reducible exact unalloc ha3 | with_reducible exact undrewalloc ha3 | with_reducible exact undrew (unalloc ha3)); (try replace ga0 := keepc hb3 ga0 gl); (try replace ga1 := keepc hb3 ga1 gl); (try replace gf0 := keepf hb3 gf0 gl); (try replace gf1 := keepf hb3 gf1 gl); (try replace gl := Nat.lt_of_lt_of_le gl hb3.size); (try (have gx := (by first | with_reducible exact newvar ha3 | with_reducible exact newvard ha3 | with_reducible exact newvare ha3 : NewVar w2 w3); have ga0 := gx.1; have ga1 := gx.2.1; have gf0 := gx.2.2.1; have gf1 := gx.2.2.2.1; have gl := gx.2.2.2.2; have gge := gB.out.size; have gn0 := Nat.ne_of_lt l0; have gn1 := Nat.ne_of_lt l1; have gn2 := Nat.ne_of_lt l2; clear gx)); replace gB := Lib.hid (onto gB.out hb3); replace s0_0 := keepc hb3 s0_0 l0; replace s0_1 := keepc hb3 s0_1 l0; replace s0_2 := keepc hb3 s0_2 l0; replace s0_3 := keepc hb3 s0_3 l0; replace s0_4 := keepc hb3 s0_4 l0; replace s1_0 := keepc hb3 s1_0 l1; replace s1_1 := keepc hb3 s1_1 l1; replace s1_2 := keepc hb3 s1_2 l1; replace s1_3 := keepc hb3 s1_3 l1; replace s1_4 := keepc hb3 s1_4 l1; replace r0 := keepc hb3 r0 l2; replace f0 := keepf hb3 f0 l2; replace r1 := keepc hb3 r1 l2; replace f1 := keepf hb3 f1 l2; replace r2 := keepc hb3 r2 l2; replace f2 := keepf hb3 f2 l2; replace r3 := keepc hb3 r3 l2; replace f3 := keepf hb3 f3 l2; replace r4 := keepc hb3 r4 l2; replace f4 := keepf hb3 f4 l2; replace l0 := Nat.lt_of_lt_of_le l0 hb3.size; replace l1 := Nat.lt_of_lt_of_le l1 hb3.size; replace l2 := Nat.lt_of_lt_of_le l2 hb3.size; replace hx1 := hx1.to hb3; replace hx2 := hx2.to hb3; replace hx3 := hx3.to hb3; replace hy1 := hy1.to hb3; replace hy2 := hy2.to hb3; replace hy3 := hy3.to hb3; replace h2 := h2.to hb3; replace HW := Lib.hid (hstep HW hb3); clear hb3; clear ha3)
      | (go_at_call 33; refine (plus_any (na y * na y) (nb y * nb y) S2 S3 _ (by first | with_reducible exact h2 | with_reducible exact h2.alloc _ | exact h2 | exact h2.alloc _) (by first | with_reducible exact h3 | with_reducible exact h3.alloc _ | exact h3 | exact h3.alloc _) (by have h := (ab_mul_ln HSY.out.1 HSY.out.1); omega) (by have h := (ab_mul_ln HSY.out.2.1 HSY.out.2.1); omega)).mono ?_; rintro e w4 ⟨S4, rfl, h4, ha4⟩; have hb4 : Below w3.heap.size w3 w4 := (by first | with_reducible exact ha4 | with_reducible exact undrew ha4 | with_reducible exact unalloc ha4 | with_reducible exact undrewalloc ha4 | with_reducible exact undrew (unalloc ha4)); (try replace ga0 := keepc hb4 ga0 gl); (try replace ga1 := keepc hb4 ga1 gl); (try replace gf0 := keepf hb4 gf0 gl); (try replace gf1 := keepf hb4 gf1 gl); (try replace gl := Nat.lt_of_lt_of_le gl hb4.size); (try (have gx := (by first | with_reducible exact newvar ha4 | with_reducible exact newvard ha4 | with_reducible exact newvare ha4 : NewVar w3 w4); have ga0 := gx.1; have ga1 := gx.2.1; have gf0 := gx.2.2.1; have gf1 := gx.2.2.2.1; have gl := gx.2.2.2.2; have gge := gB.out.size; have gn0 := Nat.ne_of_lt l0; have gn1 := Nat.ne_of_lt l1; have gn2 := Nat.ne_of_lt l2; clear gx)); replace gB := Lib.hid (onto gB.out hb4); replace s0_0 := keepc hb4 s0_0 l0; replace s0_1 := keepc hb4 s0_1 l0; replace s0_2 := keepc hb4 s0_2 l0; replace s0_3 := keepc hb4 s0_3 l0; replace s0_4 := keepc hb4 s0_4 l0; replace s1_0 := keepc hb4 s1_0 l1; replace s1_1 := keepc hb4 s1_1 l1; replace s1_2 := keepc hb4 s1_2 l1; replace s1_3 := keepc hb4 s1_3 l1; replace s1_4 := keepc hb4 s1_4 l1; replace r0 := keepc hb4 r0 l2; replace f0 := keepf hb4 f0 l2; replace r1 := keepc hb4 r1 l2; replace f1 := keepf hb4 f1 l2; replace r2 := keepc hb4 r2 l2; replace f2 := keepf hb4 f2 l2; replace r3 := keepc hb4 r3 l2; replace f3 := keepf hb4 f3 l2; replace r4 := keepc hb4 r4 l2; replace f4 := keepf hb4 f4 l2; replace l0 := Nat.lt_of_lt_of_le l0 hb4.size; replace l1 := Nat.lt_of_lt_of_le l1 hb4.size; replace l2 := Nat.lt_of_lt_of_le l2 hb4.size; replace hx1 := hx1.to hb4; replace hx2 := hx2.to hb4; replace hx3 := hx3.to hb4; replace hy1 := hy1.to hb4; replace hy2 := hy2.to hb4; replace hy3 := hy3.to hb4; replace h2 := h2.to hb4; replace h3 := h3.to hb4; replace HW := Lib.hid (hstep HW hb4); clear hb4; clear ha4))
    all_goals
      go_wp2_with fail
      go_meet
      first | exact varWhole_set gB.out ga0 ga1 gf0 gf1 h4 gge gl | exact varWhole_new gB.out h4
  case rest =>
  obtain ⟨g0, V0, hp0, t0_0, t0_1, u0_0, u0_1, hv0, hg0, l100, hb2⟩ := hcut
  subst hp0
  have n100 : g0 ≠ w.heap.size + 1 + 1 := by omega
  obtain ⟨w2, rfl⟩ : ∃ X : World, X = wc := ⟨_, rfl⟩
  replace s0_0 := keepc hb2 s0_0 l0
  replace s0_1 := keepc hb2 s0_1 l0
  replace s0_2 := keepc hb2 s0_2 l0
  replace s0_3 := keepc hb2 s0_3 l0
  replace s0_4 := keepc hb2 s0_4 l0
  replace s1_0 := keepc hb2 s1_0 l1
  replace s1_1 := keepc hb2 s1_1 l1
  replace s1_2 := keepc hb2 s1_2 l1
  replace s1_3 := keepc hb2 s1_3 l1
  replace s1_4 := keepc hb2 s1_4 l1
  replace r0 := keepc hb2 r0 l2
  replace f0 := keepf hb2 f0 l2
  replace r1 := keepc hb2 r1 l2
  replace f1 := keepf hb2 f1 l2
  replace r2 := keepc hb2 r2 l2
  replace f2 := keepf hb2 f2 l2
  replace r3 := keepc hb2 r3 l2
  replace f3 := keepf hb2 f3 l2
  replace r4 := keepc hb2 r4 l2
  replace f4 := keepf hb2 f4 l2
  replace l0 := Nat.lt_of_lt_of_le l0 hb2.size
  replace l1 := Nat.lt_of_lt_of_le l1 hb2.size
  replace l2 := Nat.lt_of_lt_of_le l2 hb2.size
  replace hx1 := hx1.to hb2
  replace hx2 := hx2.to hb2
  replace hx3 := hx3.to hb2
  replace hy1 := hy1.to hb2
  replace hy2 := hy2.to hb2
  replace hy3 := hy3.to hb2
  replace HW := Lib.hid (hstep HW hb2)
  clear hb2
  go_upto_region 4 with fail
  go_cut [7] (fun p wx => VarNum w2 (x.mul (fr (na y) (-nb y) 1)) p wx)
  case first =>
    have gB : Hid (Below w2.heap.size w2 w2) := Lib.hid (Below.refl _ _)
    go_region_held3 (fun w' => w'.cell? ⟨w.heap.size, 0, none⟩ = some (.bool (sn (na x))) ∧ w'.cell? ⟨w.heap.size, 1, none⟩ = some (.slice A1 (ln (ab (na x))) (ln (ab (na x)))) ∧ w'.cell? ⟨w.heap.size, 2, none⟩ = some (.bool (sn (nb x))) ∧ w'.cell? ⟨w.heap.size, 3, none⟩ = some (.slice A2 (ln (ab (nb x))) (ln (ab (nb x)))) ∧ w'.cell? ⟨w.heap.size, 4, none⟩ = some (.slice A3 (ln (un x)) (ln (un x))) ∧ w'.cell? ⟨w.heap.size + 1, 0, none⟩ = some (.bool (sn (na y))) ∧ w'.cell? ⟨w.heap.size + 1, 1, none⟩ = some (.slice B1 (ln (ab (na y))) (ln (ab (na y)))) ∧ w'.cell? ⟨w.heap.size + 1, 2, none⟩ = some (.bool (sn (nb y))) ∧ w'.cell? ⟨w.heap.size + 1, 3, none⟩ = some (.slice B2 (ln (ab (nb y))) (ln (ab (nb y))))) (first | with_reducible exact ⟨s0_0, s0_1, s0_2, s0_3, s0_4, s1_0, s1_1, s1_2, s1_3⟩ | with_reducible exact ⟨(keepa s0_0 l0), (keepa s0_1 l0), (keepa s0_2 l0), (keepa s0_3 l0), (keepa s0_4 l0), (keepa s1_0 l1), (keepa s1_1 l1), (keepa s1_2 l1), (keepa s1_3 l1)⟩ | with_reducible exact ⟨(keepa (keepa s0_0 l0) (lta l0)), (keepa (keepa s0_1 l0) (lta l0)), (keepa (keepa s0_2 l0) (lta l0)), (keepa (keepa s0_3 l0) (lta l0)), (keepa (keepa s0_4 l0) (lta l0)), (keepa (keepa s1_0 l1) (lta l1)), (keepa (keepa s1_1 l1) (lta l1)), (keepa (keepa s1_2 l1) (lta l1)), (keepa (keepa s1_3 l1) (lta l1))⟩ | with_reducible exact ⟨(keepd s0_0), (keepd s0_1), (keepd s0_2), (keepd s0_3), (keepd s0_4), (keepd s1_0), (keepd s1_1), (keepd s1_2), (keepd s1_3)⟩ | with_reducible exact ⟨(keepd (keepa s0_0 l0)), (keepd (keepa s0_1 l0)), (keepd (keepa s0_2 l0)), (keepd (keepa s0_3 l0)), (keepd (keepa s0_4 l0)), (keepd (keepa s1_0 l1)), (keepd (keepa s1_1 l1)), (keepd (keepa s1_2 l1)), (keepd (keepa s1_3 l1))⟩ | with_reducible exact ⟨(keepd (keepa (keepa s0_0 l0) (lta l0))), (keepd (keepa (keepa s0_1 l0) (lta l0))), (keepd (keepa (keepa s0_2 l0) (lta l0))), (keepd (keepa (keepa s0_3 l0) (lta l0))), (keepd (keepa (keepa s0_4 l0) (lta l0))), (keepd (keepa (keepa s1_0 l1) (lta l1))), (keepd (keepa (keepa s1_1 l1) (lta l1))), (keepd (keepa (keepa s1_2 l1) (lta l1))), (keepd (keepa (keepa s1_3 l1) (lta l1)))⟩ | (have _ := gx; with_reducible exact ⟨(keeps (keeps (keeps (keeps (keeps s0_0 gn0) gn0) gn0) gn0) gn0), (keeps (keeps (keeps (keeps (keeps s0_1 gn0) gn0) gn0) gn0) gn0), (keeps (keeps (keeps (keeps (keeps s0_2 gn0) gn0) gn0) gn0) gn0), (keeps (keeps (keeps (keeps (keeps s0_3 gn0) gn0) gn0) gn0) gn0), (keeps (keeps (keeps (keeps (keeps s0_4 gn0) gn0) gn0) gn0) gn0), (keeps (keeps (keeps (keeps (keeps s1_0 gn1) gn1) gn1) gn1) gn1), (keeps (keeps (keeps (keeps (keeps s1_1 gn1) gn1) gn1) gn1) gn1), (keeps (keeps (keeps (keeps (keeps s1_2 gn1) gn1) gn1) gn1) gn1), (keeps (keeps (keeps (keeps (keeps s1_3 gn1) gn1) gn1) gn1) gn1)⟩)) (first
      | (go_at_call 34; refine (minus_any (nb y) B2 _ (by first | with_reducible exact hy2 | with_reducible exact hy2.alloc _ | with_reducible exact (hy2.alloc _).alloc _ | exact hy2 | exact hy2.alloc _ | exact (hy2.alloc _).alloc _)).mono ?_; rintro e w3 ⟨S3, rfl, h3, ha⟩; have hb3 : Below w2.heap.size w2 w3 := (by first | with_reducible exact ha | with_reducible exact undrew ha | with_reducible exact unalloc ha | with_reducible exact undrewalloc ha | with_reducible exact unalloc (unalloc ha) | with_reducible exact unalloc (undrewalloc ha) | with_reducible exact undrew (unalloc ha) | with_reducible exact undrew (unalloc (unalloc ha))); (try replace q1 := q1.to hb3); (try replace gx := gx.to hb3); (try first | (with_reducible have q1 := newnat1 ha) | (with_reducible have q1 := newnat1 (undrew ha)) | (with_reducible have q1 := newnat ha) | (with_reducible have q1 := newnat (undrew ha)) | (with_reducible have q1 := newnat (unalloc ha)) | (with_reducible have q1 := newnat (undrewalloc ha))); (try ((first | (with_reducible have gx := newvarN1 ha) | (with_reducible have gx := newvarN1 (undrew ha)) | (with_reducible have gx := newvarN ha) | (with_reducible have gx := newvarN (undrew ha)) | (with_reducible have gx := newvarN (unalloc ha)) | (with_reducible have gx := newvarN (undrewalloc ha))); have gn0 := Nat.ne_of_lt (Nat.lt_of_lt_of_le l0 gx.1); have gn1 := Nat.ne_of_lt (Nat.lt_of_lt_of_le l1 gx.1); have gn2 := Nat.ne_of_lt (Nat.lt_of_lt_of_le l2 gx.1); have gn100 := Nat.ne_of_lt (Nat.lt_of_lt_of_le l100 gx.1); have gge := Nat.le_trans gB.out.size gx.1)); replace gB := Lib.hid (onto gB.out hb3); replace s0_0 := keepc hb3 s0_0 l0; replace s0_1 := keepc hb3 s0_1 l0; replace s0_2 := keepc hb3 s0_2 l0; replace s0_3 := keepc hb3 s0_3 l0; replace s0_4 := keepc hb3 s0_4 l0; replace s1_0 := keepc hb3 s1_0 l1; replace s1_1 := keepc hb3 s1_1 l1; replace s1_2 := keepc hb3 s1_2 l1; replace s1_3 := keepc hb3 s1_3 l1; replace s1_4 := keepc hb3 s1_4 l1; replace t0_0 := keepc hb3 t0_0 l100; replace t0_1 := keepc hb3 t0_1 l100; replace r0 := keepc hb3 r0 l2; replace f0 := keepf hb3 f0 l2; replace r1 := keepc hb3 r1 l2; replace f1 := keepf hb3 f1 l2; replace r2 := keepc hb3 r2 l2; replace f2 := keepf hb3 f2 l2; replace r3 := keepc hb3 r3 l2; replace f3 := keepf hb3 f3 l2; replace r4 := keepc hb3 r4 l2; replace f4 := keepf hb3 f4 l2; replace l0 := Nat.lt_of_lt_of_le l0 hb3.size; replace l1 := Nat.lt_of_lt_of_le l1 hb3.size; replace l2 := Nat.lt_of_lt_of_le l2 hb3.size; replace l100 := Nat.lt_of_lt_of_le l100 hb3.size; replace hx1 := hx1.to hb3; replace hx2 := hx2.to hb3; replace hx3 := hx3.to hb3; replace hy1 := hy1.to hb3; replace hy2 := hy2.to hb3; replace hy3 := hy3.to hb3; replace hv0 := hv0.to hb3; replace HW := Lib.hid (hstep HW hb3); clear hb3; clear ha)
      | (go_at_call 35; refine (over1_any (na y) (-nb y) B1 S3 _ _ (by first | with_reducible exact hy1 | with_reducible exact hy1.alloc _ | with_reducible exact (hy1.alloc _).alloc _ | exact hy1 | exact hy1.alloc _ | exact (hy1.alloc _).alloc _) (by first | with_reducible exact h3 | with_reducible exact h3.alloc _ | with_reducible exact (h3.alloc _).alloc _ | exact h3 | exact h3.alloc _ | exact (h3.alloc _).alloc _) (by first | with_reducible exact q1 | with_reducible exact q1.alloc _ | with_reducible exact nat1_new _ _ | with_reducible exact (nat1_new _ _).alloc _ | with_reducible exact nat1_new1 _ _ _) (by have := HSY.out; unfold sz at this; omega) (by rw [ab_neg]; have := HSY.out.2.1; omega)).mono ?_; rintro e w4 ⟨P1, P2, P3, rfl, h4, ha⟩; have hb4 : Below w3.heap.size w3 w4 := (by first | with_reducible exact ha | with_reducible exact undrew ha | with_reducible exact unalloc ha | with_reducible exact undrewalloc ha | with_reducible exact unalloc (unalloc ha) | with_reducible exact unalloc (undrewalloc ha) | with_reducible exact undrew (unalloc ha) | with_reducible exact undrew (unalloc (unalloc ha))); (try replace q1 := q1.to hb4); (try replace gx := gx.to hb4); (try first | (with_reducible have q1 := newnat1 ha) | (with_reducible have q1 := newnat1 (undrew ha)) | (with_reducible have q1 := newnat ha) | (with_reducible have q1 := newnat (undrew ha)) | (with_reducible have q1 := newnat (unalloc ha)) | (with_reducible have q1 := newnat (undrewalloc ha))); (try ((first | (with_reducible have gx := newvarN1 ha) | (with_reducible have gx := newvarN1 (undrew ha)) | (with_reducible have gx := newvarN ha) | (with_reducible have gx := newvarN (undrew ha)) | (with_reducible have gx := newvarN (unalloc ha)) | (with_reducible have gx := newvarN (undrewalloc ha))); have gn0 := Nat.ne_of_lt (Nat.lt_of_lt_of_le l0 gx.1); have gn1 := Nat.ne_of_lt (Nat.lt_of_lt_of_le l1 gx.1); have gn2 := Nat.ne_of_lt (Nat.lt_of_lt_of_le l2 gx.1); have gn100 := Nat.ne_of_lt (Nat.lt_of_lt_of_le l100 gx.1); have gge := Nat.le_trans gB.out.size gx.1)); replace gB := Lib.hid (onto gB.out hb4); replace s0_0 := keepc hb4 s0_0 l0; replace s0_1 := keepc hb4 s0_1 l0; replace s0_2 := keepc hb4 s0_2 l0; replace s0_3 := keepc hb4 s0_3 l0; replace s0_4 := keepc hb4 s0_4 l0; replace s1_0 := keepc hb4 s1_0 l1; replace s1_1 := keepc hb4 s1_1 l1; replace s1_2 := keepc hb4 s1_2 l1; replace s1_3 := keepc hb4 s1_3 l1; replace s1_4 := keepc hb4 s1_4 l1; replace t0_0 := keepc hb4 t0_0 l100; replace t0_1 := keepc hb4 t0_1 l100; replace r0 := keepc hb4 r0 l2; replace f0 := keepf hb4 f0 l2; replace r1 := keepc hb4 r1 l2; replace f1 := keepf hb4 f1 l2; replace r2 := keepc hb4 r2 l2; replace f2 := keepf hb4 f2 l2; replace r3 := keepc hb4 r3 l2; replace f3 := keepf hb4 f3 l2; replace r4 := keepc hb4 r4 l2; replace f4 := keepf hb4 f4 l2; replace l0 := Nat.lt_of_lt_of_le l0 hb4.size; replace l1 := Nat.lt_of_lt_of_le l1 hb4.size; replace l2 := Nat.lt_of_lt_of_le l2 hb4.size; replace l100 := Nat.lt_of_lt_of_le l100 hb4.size; replace hx1 := hx1.to hb4; replace hx2 := hx2.to hb4; replace hx3 := hx3.to hb4; replace hy1 := hy1.to hb4; replace hy2 := hy2.to hb4; replace hy3 := hy3.to hb4; replace hv0 := hv0.to hb4; replace h3 := h3.to hb4; replace HW := Lib.hid (hstep HW hb4); clear hb4; clear ha)
      | (go_at_call 10; refine (mul_num x (fr (na y) (-nb y) 1) A1 A2 A3 P1 P2 P3 _ (by first | with_reducible exact num3_mk hx1 hx2 hx3 | with_reducible exact num3_mk (hx1.alloc _) (hx2.alloc _) (hx3.alloc _) | with_reducible exact num3_mk ((hx1.alloc _).alloc _) ((hx2.alloc _).alloc _) ((hx3.alloc _).alloc _)) (by first | with_reducible exact h4 | with_reducible exact num3_alloc h4) HSX.out (fr_sz (by omega) HSY.out.1 (by rw [ab_neg]; exact HSY.out.2.1) (by rw [ln_one]; omega))).mono ?_; rintro e w5 ⟨Z1, Z2, Z3, rfl, z5, ha⟩; have hb5 : Below w4.heap.size w4 w5 := (by first | with_reducible exact ha | with_reducible exact undrew ha | with_reducible exact unalloc ha | with_reducible exact undrewalloc ha | with_reducible exact unalloc (unalloc ha) | with_reducible exact unalloc (undrewalloc ha) | with_reducible exact undrew (unalloc ha) | with_reducible exact undrew (unalloc (unalloc ha))); (try replace q1 := q1.to hb5); (try replace gx := gx.to hb5); (try first | (with_reducible have q1 := newnat1 ha) | (with_reducible have q1 := newnat1 (undrew ha)) | (with_reducible have q1 := newnat ha) | (with_reducible have q1 := newnat (undrew ha)) | (with_reducible have q1 := newnat (unalloc ha)) | (with_reducible have q1 := newnat (undrewalloc ha))); (try ((first | (with_reducible have gx := newvarN1 ha) | (with_reducible have gx := newvarN1 (undrew ha)) | (with_reducible have gx := newvarN ha) | (with_reducible have gx := newvarN (undrew ha)) | (with_reducible have gx := newvarN (unalloc ha)) | (with_reducible have gx := newvarN (undrewalloc ha))); have gn0 := Nat.ne_of_lt (Nat.lt_of_lt_of_le l0 gx.1); have gn1 := Nat.ne_of_lt (Nat.lt_of_lt_of_le l1 gx.1); have gn2 := Nat.ne_of_lt (Nat.lt_of_lt_of_le l2 gx.1); have gn100 := Nat.ne_of_lt (Nat.lt_of_lt_of_le l100 gx.1); have gge := Nat.le_trans gB.out.size gx.1)); replace gB := Lib.hid (onto gB.out hb5); replace s0_0 := keepc hb5 s0_0 l0; replace s0_1 := keepc hb5 s0_1 l0; replace s0_2 := keepc hb5 s0_2 l0; replace s0_3 := keepc hb5 s0_3 l0; replace s0_4 := keepc hb5 s0_4 l0; replace s1_0 := keepc hb5 s1_0 l1; replace s1_1 := keepc hb5 s1_1 l1; replace s1_2 := keepc hb5 s1_2 l1; replace s1_3 := keepc hb5 s1_3 l1; replace s1_4 := keepc hb5 s1_4 l1; replace t0_0 := keepc hb5 t0_0 l100; replace t0_1 := keepc hb5 t0_1 l100; replace r0 := keepc hb5 r0 l2; replace f0 := keepf hb5 f0 l2; replace r1 := keepc hb5 r1 l2; replace f1 := keepf hb5 f1 l2; replace r2 := keepc hb5 r2 l2; replace f2 := keepf hb5 f2 l2; replace r3 := keepc hb5 r3 l2; replace f3 := keepf hb5 f3 l2; replace r4 := keepc hb5 r4 l2; replace f4 := keepf hb5 f4 l2; replace l0 := Nat.lt_of_lt_of_le l0 hb5.size; replace l1 := Nat.lt_of_lt_of_le l1 hb5.size; replace l2 := Nat.lt_of_lt_of_le l2 hb5.size; replace l100 := Nat.lt_of_lt_of_le l100 hb5.size; replace hx1 := hx1.to hb5; replace hx2 := hx2.to hb5; replace hx3 := hx3.to hb5; replace hy1 := hy1.to hb5; replace hy2 := hy2.to hb5; replace hy3 := hy3.to hb5; replace hv0 := hv0.to hb5; replace h3 := h3.to hb5; replace h4 := h4.to hb5; replace HW := Lib.hid (hstep HW hb5); clear hb5; (try (have gy := gx; obtain ⟨_, _, ⟨ga0, ga1, ga2, ga3, ga4⟩, gf0, gf1, gf2, gf3, gf4⟩ := gy)); clear ha))
    all_goals
      go_wp2_with fail
      go_meet
      first | with_reducible exact varNum_set gB.out gx gge z5 | with_reducible exact varNum_new gB.out z5
  case rest =>
  obtain ⟨g1, V11, V12, V13, hp1, ⟨t1_0, t1_1, t1_2, t1_3, t1_4⟩, hv1, hg1, l101, hb3⟩ := hcut
  obtain ⟨hv11, hv12, hv13⟩ := hv1
  subst hp1
  have n101 : g1 ≠ w.heap.size + 1 + 1 := by omega
  obtain ⟨w3, rfl⟩ : ∃ X : World, X = wc := ⟨_, rfl⟩
  replace s0_0 := keepc hb3 s0_0 l0
  replace s0_1 := keepc hb3 s0_1 l0
  replace s0_2 := keepc hb3 s0_2 l0
  replace s0_3 := keepc hb3 s0_3 l0
  replace s0_4 := keepc hb3 s0_4 l0
  replace s1_0 := keepc hb3 s1_0 l1
  replace s1_1 := keepc hb3 s1_1 l1
  replace s1_2 := keepc hb3 s1_2 l1
  replace s1_3 := keepc hb3 s1_3 l1
  replace s1_4 := keepc hb3 s1_4 l1
  replace t0_0 := keepc hb3 t0_0 l100
  replace t0_1 := keepc hb3 t0_1 l100
  replace r0 := keepc hb3 r0 l2
  replace f0 := keepf hb3 f0 l2
  replace r1 := keepc hb3 r1 l2
  replace f1 := keepf hb3 f1 l2
  replace r2 := keepc hb3 r2 l2
  replace f2 := keepf hb3 f2 l2
  replace r3 := keepc hb3 r3 l2
  replace f3 := keepf hb3 f3 l2
  replace r4 := keepc hb3 r4 l2
  replace f4 := keepf hb3 f4 l2
  replace l0 := Nat.lt_of_lt_of_le l0 hb3.size
  replace l1 := Nat.lt_of_lt_of_le l1 hb3.size
  replace l2 := Nat.lt_of_lt_of_le l2 hb3.size
  replace l100 := Nat.lt_of_lt_of_le l100 hb3.size
  replace hx1 := hx1.to hb3
  replace hx2 := hx2.to hb3
  replace hx3 := hx3.to hb3
  replace hy1 := hy1.to hb3
  replace hy2 := hy2.to hb3
  replace hy3 := hy3.to hb3
  replace hv0 := hv0.to hb3
  replace HW := Lib.hid (hstep HW hb3)
  clear hb3
  have HSZ : Hid (sz 274877906945 (x.mul (fr (na y) (-nb y) 1))) := Lib.hid (sz_mul HSX.out (fr_sz (by omega) HSY.out.1 (by rw [ab_neg]; exact HSY.out.2.1) (by rw [ln_one]; omega)))
  go_wp2_with fail
  go_region_held3 (fun w' => w'.cell? ⟨w.heap.size + 1, 0, none⟩ = some (.bool (sn (na y))) ∧ w'.cell? ⟨w.heap.size + 1, 1, none⟩ = some (.slice B1 (ln (ab (na y))) (ln (ab (na y)))) ∧ w'.cell? ⟨w.heap.size + 1, 2, none⟩ = some (.bool (sn (nb y))) ∧ w'.cell? ⟨w.heap.size + 1, 3, none⟩ = some (.slice B2 (ln (ab (nb y))) (ln (ab (nb y)))) ∧ w'.cell? ⟨w.heap.size + 1, 4, none⟩ = some (.slice B3 (ln (un y)) (ln (un y))) ∧ w'.cell? ⟨g0, 1, none⟩ = some (.slice V0 (ln (ab (na y * na y + nb y * nb y))) (ln (ab (na y * na y + nb y * nb y)))) ∧ w'.cell? ⟨g1, 0, none⟩ = some (.bool (sn (na (x.mul (fr (na y) (-nb y) 1))))) ∧ w'.cell? ⟨g1, 1, none⟩ = some (.slice V11 (ln (ab (na (x.mul (fr (na y) (-nb y) 1))))) (ln (ab (na (x.mul (fr (na y) (-nb y) 1)))))) ∧ w'.cell? ⟨g1, 2, none⟩ = some (.bool (sn (nb (x.mul (fr (na y) (-nb y) 1))))) ∧ w'.cell? ⟨g1, 3, none⟩ = some (.slice V12 (ln (ab (nb (x.mul (fr (na y) (-nb y) 1))))) (ln (ab (nb (x.mul (fr (na y) (-nb y) 1)))))) ∧ w'.cell? ⟨g1, 4, none⟩ = some (.slice V13 (ln (un (x.mul (fr (na y) (-nb y) 1)))) (ln (un (x.mul (fr (na y) (-nb y) 1)))))) (first | with_reducible exact ⟨s1_0, s1_1, s1_2, s1_3, s1_4, t0_1, t1_0, t1_1, t1_2, t1_3, t1_4⟩ | with_reducible exact ⟨(keeps (keeps (keeps (keeps (keeps s1_0 n1) n1) n1) n1) n1), (keeps (keeps (keeps (keeps (keeps s1_1 n1) n1) n1) n1) n1), (keeps (keeps (keeps (keeps (keeps s1_2 n1) n1) n1) n1) n1), (keeps (keeps (keeps (keeps (keeps s1_3 n1) n1) n1) n1) n1), (keeps (keeps (keeps (keeps (keeps s1_4 n1) n1) n1) n1) n1), (keeps (keeps (keeps (keeps (keeps t0_1 n100) n100) n100) n100) n100), (keeps (keeps (keeps (keeps (keeps t1_0 n101) n101) n101) n101) n101), (keeps (keeps (keeps (keeps (keeps t1_1 n101) n101) n101) n101) n101), (keeps (keeps (keeps (keeps (keeps t1_2 n101) n101) n101) n101) n101), (keeps (keeps (keeps (keeps (keeps t1_3 n101) n101) n101) n101) n101), (keeps (keeps (keeps (keeps (keeps t1_4 n101) n101) n101) n101) n101)⟩ | exact ⟨s1_0, s1_1, s1_2, s1_3, s1_4, t0_1, t1_0, t1_1, t1_2, t1_3, t1_4⟩) (first
    | (have _ := d1; go_at_call_of 36 (Value.agg #[.bool (sn (na y)), .slice B1 (ln (ab (na y))) (ln (ab (na y))), .bool (sn (nb y)), .slice B2 (ln (ab (nb y))) (ln (ab (nb y))), .slice B3 (ln (un y)) (ln (un y))]); refine (den_any y B1 B2 B3 _ (by exact num3_mk hy1 hy2 hy3)).mono ?_; rintro e w6 ⟨D3, rfl, d3, hb6⟩; replace s0_0 := keepc hb6 s0_0 l0; replace s0_1 := keepc hb6 s0_1 l0; replace s0_2 := keepc hb6 s0_2 l0; replace s0_3 := keepc hb6 s0_3 l0; replace s0_4 := keepc hb6 s0_4 l0; replace s1_0 := keepc hb6 s1_0 l1; replace s1_1 := keepc hb6 s1_1 l1; replace s1_2 := keepc hb6 s1_2 l1; replace s1_3 := keepc hb6 s1_3 l1; replace s1_4 := keepc hb6 s1_4 l1; replace t0_0 := keepc hb6 t0_0 l100; replace t0_1 := keepc hb6 t0_1 l100; replace t1_0 := keepc hb6 t1_0 l101; replace t1_1 := keepc hb6 t1_1 l101; replace t1_2 := keepc hb6 t1_2 l101; replace t1_3 := keepc hb6 t1_3 l101; replace t1_4 := keepc hb6 t1_4 l101; replace r0 := keepc hb6 r0 l2; replace f0 := keepf hb6 f0 l2; replace r1 := keepc hb6 r1 l2; replace f1 := keepf hb6 f1 l2; replace r2 := keepc hb6 r2 l2; replace f2 := keepf hb6 f2 l2; replace r3 := keepc hb6 r3 l2; replace f3 := keepf hb6 f3 l2; replace r4 := keepc hb6 r4 l2; replace f4 := keepf hb6 f4 l2; replace l0 := Nat.lt_of_lt_of_le l0 hb6.size; replace l1 := Nat.lt_of_lt_of_le l1 hb6.size; replace l2 := Nat.lt_of_lt_of_le l2 hb6.size; replace l100 := Nat.lt_of_lt_of_le l100 hb6.size; replace l101 := Nat.lt_of_lt_of_le l101 hb6.size; replace hx1 := hx1.to hb6; replace hx2 := hx2.to hb6; replace hx3 := hx3.to hb6; replace hy1 := hy1.to hb6; replace hy2 := hy2.to hb6; replace hy3 := hy3.to hb6; replace hv0 := hv0.to hb6; replace hv11 := hv11.to hb6; replace hv12 := hv12.to hb6; replace hv13 := hv13.to hb6; replace d1 := d1.to hb6; replace d2 := d2.to hb6; replace HW := Lib.hid (hstep HW hb6); clear hb6)
    | (go_at_call_of 36 (Value.agg #[.bool (sn (na y)), .slice B1 (ln (ab (na y))) (ln (ab (na y))), .bool (sn (nb y)), .slice B2 (ln (ab (nb y))) (ln (ab (nb y))), .slice B3 (ln (un y)) (ln (un y))]); refine (den_any y B1 B2 B3 _ (by exact num3_mk hy1 hy2 hy3)).mono ?_; rintro e w4 ⟨D1, rfl, d1, hb4⟩; have hb4 := undrew hb4; replace s0_0 := keepc hb4 s0_0 l0; replace s0_1 := keepc hb4 s0_1 l0; replace s0_2 := keepc hb4 s0_2 l0; replace s0_3 := keepc hb4 s0_3 l0; replace s0_4 := keepc hb4 s0_4 l0; replace s1_0 := keepc hb4 s1_0 l1; replace s1_1 := keepc hb4 s1_1 l1; replace s1_2 := keepc hb4 s1_2 l1; replace s1_3 := keepc hb4 s1_3 l1; replace s1_4 := keepc hb4 s1_4 l1; replace t0_0 := keepc hb4 t0_0 l100; replace t0_1 := keepc hb4 t0_1 l100; replace t1_0 := keepc hb4 t1_0 l101; replace t1_1 := keepc hb4 t1_1 l101; replace t1_2 := keepc hb4 t1_2 l101; replace t1_3 := keepc hb4 t1_3 l101; replace t1_4 := keepc hb4 t1_4 l101; replace r0 := keepc hb4 r0 l2; replace f0 := keepf hb4 f0 l2; replace r1 := keepc hb4 r1 l2; replace f1 := keepf hb4 f1 l2; replace r2 := keepc hb4 r2 l2; replace f2 := keepf hb4 f2 l2; replace r3 := keepc hb4 r3 l2; replace f3 := keepf hb4 f3 l2; replace r4 := keepc hb4 r4 l2; replace f4 := keepf hb4 f4 l2; replace l0 := Nat.lt_of_lt_of_le l0 hb4.size; replace l1 := Nat.lt_of_lt_of_le l1 hb4.size; replace l2 := Nat.lt_of_lt_of_le l2 hb4.size; replace l100 := Nat.lt_of_lt_of_le l100 hb4.size; replace l101 := Nat.lt_of_lt_of_le l101 hb4.size; replace hx1 := hx1.to hb4; replace hx2 := hx2.to hb4; replace hx3 := hx3.to hb4; replace hy1 := hy1.to hb4; replace hy2 := hy2.to hb4; replace hy3 := hy3.to hb4; replace hv0 := hv0.to hb4; replace hv11 := hv11.to hb4; replace hv12 := hv12.to hb4; replace hv13 := hv13.to hb4; replace HW := Lib.hid (hstep HW hb4); clear hb4)
    | (go_at_call_of 49 (Value.slice V11 (ln (ab (na (x.mul (fr (na y) (-nb y) 1))))) (ln (ab (na (x.mul (fr (na y) (-nb y) 1)))))); refine (scaled_any (na (x.mul (fr (na y) (-nb y) 1))) (nd y) V11 D1 _ (by exact hv11) (by exact d1) (by have := HSZ.out; unfold sz at this; omega) (by have := HSY.out; unfold sz at this; omega)).mono ?_; rintro e w5 ⟨E2, rfl, d2, hb5⟩; replace s0_0 := keepc hb5 s0_0 l0; replace s0_1 := keepc hb5 s0_1 l0; replace s0_2 := keepc hb5 s0_2 l0; replace s0_3 := keepc hb5 s0_3 l0; replace s0_4 := keepc hb5 s0_4 l0; replace s1_0 := keepc hb5 s1_0 l1; replace s1_1 := keepc hb5 s1_1 l1; replace s1_2 := keepc hb5 s1_2 l1; replace s1_3 := keepc hb5 s1_3 l1; replace s1_4 := keepc hb5 s1_4 l1; replace t0_0 := keepc hb5 t0_0 l100; replace t0_1 := keepc hb5 t0_1 l100; replace t1_0 := keepc hb5 t1_0 l101; replace t1_1 := keepc hb5 t1_1 l101; replace t1_2 := keepc hb5 t1_2 l101; replace t1_3 := keepc hb5 t1_3 l101; replace t1_4 := keepc hb5 t1_4 l101; replace r0 := keepc hb5 r0 l2; replace f0 := keepf hb5 f0 l2; replace r1 := keepc hb5 r1 l2; replace f1 := keepf hb5 f1 l2; replace r2 := keepc hb5 r2 l2; replace f2 := keepf hb5 f2 l2; replace r3 := keepc hb5 r3 l2; replace f3 := keepf hb5 f3 l2; replace r4 := keepc hb5 r4 l2; replace f4 := keepf hb5 f4 l2; replace l0 := Nat.lt_of_lt_of_le l0 hb5.size; replace l1 := Nat.lt_of_lt_of_le l1 hb5.size; replace l2 := Nat.lt_of_lt_of_le l2 hb5.size; replace l100 := Nat.lt_of_lt_of_le l100 hb5.size; replace l101 := Nat.lt_of_lt_of_le l101 hb5.size; replace hx1 := hx1.to hb5; replace hx2 := hx2.to hb5; replace hx3 := hx3.to hb5; replace hy1 := hy1.to hb5; replace hy2 := hy2.to hb5; replace hy3 := hy3.to hb5; replace hv0 := hv0.to hb5; replace hv11 := hv11.to hb5; replace hv12 := hv12.to hb5; replace hv13 := hv13.to hb5; replace d1 := d1.to hb5; replace HW := Lib.hid (hstep HW hb5); clear hb5)
    | (go_at_call_of 49 (Value.slice V12 (ln (ab (nb (x.mul (fr (na y) (-nb y) 1))))) (ln (ab (nb (x.mul (fr (na y) (-nb y) 1)))))); refine (scaled_any (nb (x.mul (fr (na y) (-nb y) 1))) (nd y) V12 D3 _ (by exact hv12) (by exact d3) (by have := HSZ.out; unfold sz at this; omega) (by have := HSY.out; unfold sz at this; omega)).mono ?_; rintro e w7 ⟨E4, rfl, d4, hb7⟩; replace s0_0 := keepc hb7 s0_0 l0; replace s0_1 := keepc hb7 s0_1 l0; replace s0_2 := keepc hb7 s0_2 l0; replace s0_3 := keepc hb7 s0_3 l0; replace s0_4 := keepc hb7 s0_4 l0; replace s1_0 := keepc hb7 s1_0 l1; replace s1_1 := keepc hb7 s1_1 l1; replace s1_2 := keepc hb7 s1_2 l1; replace s1_3 := keepc hb7 s1_3 l1; replace s1_4 := keepc hb7 s1_4 l1; replace t0_0 := keepc hb7 t0_0 l100; replace t0_1 := keepc hb7 t0_1 l100; replace t1_0 := keepc hb7 t1_0 l101; replace t1_1 := keepc hb7 t1_1 l101; replace t1_2 := keepc hb7 t1_2 l101; replace t1_3 := keepc hb7 t1_3 l101; replace t1_4 := keepc hb7 t1_4 l101; replace r0 := keepc hb7 r0 l2; replace f0 := keepf hb7 f0 l2; replace r1 := keepc hb7 r1 l2; replace f1 := keepf hb7 f1 l2; replace r2 := keepc hb7 r2 l2; replace f2 := keepf hb7 f2 l2; replace r3 := keepc hb7 r3 l2; replace f3 := keepf hb7 f3 l2; replace r4 := keepc hb7 r4 l2; replace f4 := keepf hb7 f4 l2; replace l0 := Nat.lt_of_lt_of_le l0 hb7.size; replace l1 := Nat.lt_of_lt_of_le l1 hb7.size; replace l2 := Nat.lt_of_lt_of_le l2 hb7.size; replace l100 := Nat.lt_of_lt_of_le l100 hb7.size; replace l101 := Nat.lt_of_lt_of_le l101 hb7.size; replace hx1 := hx1.to hb7; replace hx2 := hx2.to hb7; replace hx3 := hx3.to hb7; replace hy1 := hy1.to hb7; replace hy2 := hy2.to hb7; replace hy3 := hy3.to hb7; replace hv0 := hv0.to hb7; replace hv11 := hv11.to hb7; replace hv12 := hv12.to hb7; replace hv13 := hv13.to hb7; replace d1 := d1.to hb7; replace d2 := d2.to hb7; replace d3 := d3.to hb7; replace HW := Lib.hid (hstep HW hb7); clear hb7)
    | (go_at_call_of 36 (Value.agg #[.bool (sn (na (x.mul (fr (na y) (-nb y) 1)))), .slice V11 (ln (ab (na (x.mul (fr (na y) (-nb y) 1))))) (ln (ab (na (x.mul (fr (na y) (-nb y) 1))))), .bool (sn (nb (x.mul (fr (na y) (-nb y) 1)))), .slice V12 (ln (ab (nb (x.mul (fr (na y) (-nb y) 1))))) (ln (ab (nb (x.mul (fr (na y) (-nb y) 1))))), .slice V13 (ln (un (x.mul (fr (na y) (-nb y) 1)))) (ln (un (x.mul (fr (na y) (-nb y) 1))))]); refine (den_any (x.mul (fr (na y) (-nb y) 1)) V11 V12 V13 _ (by exact num3_mk hv11 hv12 hv13)).mono ?_; rintro e w8 ⟨D5, rfl, d5, hb8⟩; replace s0_0 := keepc hb8 s0_0 l0; replace s0_1 := keepc hb8 s0_1 l0; replace s0_2 := keepc hb8 s0_2 l0; replace s0_3 := keepc hb8 s0_3 l0; replace s0_4 := keepc hb8 s0_4 l0; replace s1_0 := keepc hb8 s1_0 l1; replace s1_1 := keepc hb8 s1_1 l1; replace s1_2 := keepc hb8 s1_2 l1; replace s1_3 := keepc hb8 s1_3 l1; replace s1_4 := keepc hb8 s1_4 l1; replace t0_0 := keepc hb8 t0_0 l100; replace t0_1 := keepc hb8 t0_1 l100; replace t1_0 := keepc hb8 t1_0 l101; replace t1_1 := keepc hb8 t1_1 l101; replace t1_2 := keepc hb8 t1_2 l101; replace t1_3 := keepc hb8 t1_3 l101; replace t1_4 := keepc hb8 t1_4 l101; replace r0 := keepc hb8 r0 l2; replace f0 := keepf hb8 f0 l2; replace r1 := keepc hb8 r1 l2; replace f1 := keepf hb8 f1 l2; replace r2 := keepc hb8 r2 l2; replace f2 := keepf hb8 f2 l2; replace r3 := keepc hb8 r3 l2; replace f3 := keepf hb8 f3 l2; replace r4 := keepc hb8 r4 l2; replace f4 := keepf hb8 f4 l2; replace l0 := Nat.lt_of_lt_of_le l0 hb8.size; replace l1 := Nat.lt_of_lt_of_le l1 hb8.size; replace l2 := Nat.lt_of_lt_of_le l2 hb8.size; replace l100 := Nat.lt_of_lt_of_le l100 hb8.size; replace l101 := Nat.lt_of_lt_of_le l101 hb8.size; replace hx1 := hx1.to hb8; replace hx2 := hx2.to hb8; replace hx3 := hx3.to hb8; replace hy1 := hy1.to hb8; replace hy2 := hy2.to hb8; replace hy3 := hy3.to hb8; replace hv0 := hv0.to hb8; replace hv11 := hv11.to hb8; replace hv12 := hv12.to hb8; replace hv13 := hv13.to hb8; replace d1 := d1.to hb8; replace d2 := d2.to hb8; replace d3 := d3.to hb8; replace d4 := d4.to hb8; replace HW := Lib.hid (hstep HW hb8); clear hb8)
    | (go_at_call 37; refine (mul_any (nd (x.mul (fr (na y) (-nb y) 1))) (ab (na y * na y + nb y * nb y)) D5 V0 _ (by exact d5) (by exact hv0) (by have := HSZ.out; unfold sz at this; omega) (by have h := (ab_add_ln (K := 274877906944) (ab_mul_ln HSY.out.1 HSY.out.1) (ab_mul_ln HSY.out.2.1 HSY.out.2.1)); have h3 := HSX.out; have h4 := HSY.out; have h5 := HSZ.out; unfold sz at h3 h4 h5; omega)).mono ?_; rintro e w9 ⟨E6, rfl, d6, hb9⟩; replace s0_0 := keepc hb9 s0_0 l0; replace s0_1 := keepc hb9 s0_1 l0; replace s0_2 := keepc hb9 s0_2 l0; replace s0_3 := keepc hb9 s0_3 l0; replace s0_4 := keepc hb9 s0_4 l0; replace s1_0 := keepc hb9 s1_0 l1; replace s1_1 := keepc hb9 s1_1 l1; replace s1_2 := keepc hb9 s1_2 l1; replace s1_3 := keepc hb9 s1_3 l1; replace s1_4 := keepc hb9 s1_4 l1; replace t0_0 := keepc hb9 t0_0 l100; replace t0_1 := keepc hb9 t0_1 l100; replace t1_0 := keepc hb9 t1_0 l101; replace t1_1 := keepc hb9 t1_1 l101; replace t1_2 := keepc hb9 t1_2 l101; replace t1_3 := keepc hb9 t1_3 l101; replace t1_4 := keepc hb9 t1_4 l101; replace r0 := keepc hb9 r0 l2; replace f0 := keepf hb9 f0 l2; replace r1 := keepc hb9 r1 l2; replace f1 := keepf hb9 f1 l2; replace r2 := keepc hb9 r2 l2; replace f2 := keepf hb9 f2 l2; replace r3 := keepc hb9 r3 l2; replace f3 := keepf hb9 f3 l2; replace r4 := keepc hb9 r4 l2; replace f4 := keepf hb9 f4 l2; replace l0 := Nat.lt_of_lt_of_le l0 hb9.size; replace l1 := Nat.lt_of_lt_of_le l1 hb9.size; replace l2 := Nat.lt_of_lt_of_le l2 hb9.size; replace l100 := Nat.lt_of_lt_of_le l100 hb9.size; replace l101 := Nat.lt_of_lt_of_le l101 hb9.size; replace hx1 := hx1.to hb9; replace hx2 := hx2.to hb9; replace hx3 := hx3.to hb9; replace hy1 := hy1.to hb9; replace hy2 := hy2.to hb9; replace hy3 := hy3.to hb9; replace hv0 := hv0.to hb9; replace hv11 := hv11.to hb9; replace hv12 := hv12.to hb9; replace hv13 := hv13.to hb9; replace d1 := d1.to hb9; replace d2 := d2.to hb9; replace d3 := d3.to hb9; replace d4 := d4.to hb9; replace d5 := d5.to hb9; replace HW := Lib.hid (hstep HW hb9); clear hb9)
    | (go_at_call 35; refine (over_any (na (x.mul (fr (na y) (-nb y) 1)) * (nd y : Int)) (nb (x.mul (fr (na y) (-nb y) 1)) * (nd y : Int)) (nd (x.mul (fr (na y) (-nb y) 1)) * ab (na y * na y + nb y * nb y)) E2 E4 E6 _ (by exact d2) (by exact d4) (by exact d6) (by have h := (ab_mul_ln HSZ.out.1 (ab_nat_ln HSY.out.2.2)); have h3 := HSX.out; have h4 := HSY.out; have h5 := HSZ.out; unfold sz at h3 h4 h5; omega) (by have h := (ab_mul_ln HSZ.out.2.1 (ab_nat_ln HSY.out.2.2)); have h3 := HSX.out; have h4 := HSY.out; have h5 := HSZ.out; unfold sz at h3 h4 h5; omega) (by have h := (nat_mul_ln HSZ.out.2.2 (ab_add_ln (K := 274877906944) (ab_mul_ln HSY.out.1 HSY.out.1) (ab_mul_ln HSY.out.2.1 HSY.out.2.1))); have h3 := HSX.out; have h4 := HSY.out; have h5 := HSZ.out; unfold sz at h3 h4 h5; omega) HN.out).mono ?_; rintro e w10 ⟨Z1, Z2, Z3, rfl, d7, hb10⟩; replace s0_0 := keepc hb10 s0_0 l0; replace s0_1 := keepc hb10 s0_1 l0; replace s0_2 := keepc hb10 s0_2 l0; replace s0_3 := keepc hb10 s0_3 l0; replace s0_4 := keepc hb10 s0_4 l0; replace s1_0 := keepc hb10 s1_0 l1; replace s1_1 := keepc hb10 s1_1 l1; replace s1_2 := keepc hb10 s1_2 l1; replace s1_3 := keepc hb10 s1_3 l1; replace s1_4 := keepc hb10 s1_4 l1; replace t0_0 := keepc hb10 t0_0 l100; replace t0_1 := keepc hb10 t0_1 l100; replace t1_0 := keepc hb10 t1_0 l101; replace t1_1 := keepc hb10 t1_1 l101; replace t1_2 := keepc hb10 t1_2 l101; replace t1_3 := keepc hb10 t1_3 l101; replace t1_4 := keepc hb10 t1_4 l101; replace r0 := keepc hb10 r0 l2; replace f0 := keepf hb10 f0 l2; replace r1 := keepc hb10 r1 l2; replace f1 := keepf hb10 f1 l2; replace r2 := keepc hb10 r2 l2; replace f2 := keepf hb10 f2 l2; replace r3 := keepc hb10 r3 l2; replace f3 := keepf hb10 f3 l2; replace r4 := keepc hb10 r4 l2; replace f4 := keepf hb10 f4 l2; replace l0 := Nat.lt_of_lt_of_le l0 hb10.size; replace l1 := Nat.lt_of_lt_of_le l1 hb10.size; replace l2 := Nat.lt_of_lt_of_le l2 hb10.size; replace l100 := Nat.lt_of_lt_of_le l100 hb10.size; replace l101 := Nat.lt_of_lt_of_le l101 hb10.size; replace hx1 := hx1.to hb10; replace hx2 := hx2.to hb10; replace hx3 := hx3.to hb10; replace hy1 := hy1.to hb10; replace hy2 := hy2.to hb10; replace hy3 := hy3.to hb10; replace hv0 := hv0.to hb10; replace hv11 := hv11.to hb10; replace hv12 := hv12.to hb10; replace hv13 := hv13.to hb10; replace d1 := d1.to hb10; replace d2 := d2.to hb10; replace d3 := d3.to hb10; replace d4 := d4.to hb10; replace d5 := d5.to hb10; replace d6 := d6.to hb10; replace HW := Lib.hid (hstep HW hb10); clear hb10))
  go_wp2_with fail
  exact bodyPost_ret (v := .tuple #[.agg #[.bool (sn (na (fr (na (x.mul (fr (na y) (-nb y) 1)) * (nd y : Int)) (nb (x.mul (fr (na y) (-nb y) 1)) * (nd y : Int)) (nd (x.mul (fr (na y) (-nb y) 1)) * ab (na y * na y + nb y * nb y))))), .slice Z1 (ln (ab (na (fr (na (x.mul (fr (na y) (-nb y) 1)) * (nd y : Int)) (nb (x.mul (fr (na y) (-nb y) 1)) * (nd y : Int)) (nd (x.mul (fr (na y) (-nb y) 1)) * ab (na y * na y + nb y * nb y)))))) (ln (ab (na (fr (na (x.mul (fr (na y) (-nb y) 1)) * (nd y : Int)) (nb (x.mul (fr (na y) (-nb y) 1)) * (nd y : Int)) (nd (x.mul (fr (na y) (-nb y) 1)) * ab (na y * na y + nb y * nb y)))))), .bool (sn (nb (fr (na (x.mul (fr (na y) (-nb y) 1)) * (nd y : Int)) (nb (x.mul (fr (na y) (-nb y) 1)) * (nd y : Int)) (nd (x.mul (fr (na y) (-nb y) 1)) * ab (na y * na y + nb y * nb y))))), .slice Z2 (ln (ab (nb (fr (na (x.mul (fr (na y) (-nb y) 1)) * (nd y : Int)) (nb (x.mul (fr (na y) (-nb y) 1)) * (nd y : Int)) (nd (x.mul (fr (na y) (-nb y) 1)) * ab (na y * na y + nb y * nb y)))))) (ln (ab (nb (fr (na (x.mul (fr (na y) (-nb y) 1)) * (nd y : Int)) (nb (x.mul (fr (na y) (-nb y) 1)) * (nd y : Int)) (nd (x.mul (fr (na y) (-nb y) 1)) * ab (na y * na y + nb y * nb y)))))), .slice Z3 (ln (un (fr (na (x.mul (fr (na y) (-nb y) 1)) * (nd y : Int)) (nb (x.mul (fr (na y) (-nb y) 1)) * (nd y : Int)) (nd (x.mul (fr (na y) (-nb y) 1)) * ab (na y * na y + nb y * nb y))))) (ln (un (fr (na (x.mul (fr (na y) (-nb y) 1)) * (nd y : Int)) (nb (x.mul (fr (na y) (-nb y) 1)) * (nd y : Int)) (nd (x.mul (fr (na y) (-nb y) 1)) * ab (na y * na y + nb y * nb y)))))], .int .i64 0]) (by simp [results, Try.results40, go_sem, r0, r1, r2, r3, r4, f0, f1, f2, f3, f4]) rfl (retNumE_fin HW d7 (by omega) r0)
theorem sz_div {K : Nat} {x y : Cx} (hK : 1 ≤ K) (hx : sz K x) (hy : sz K y) (h0 : y ≠ Cx.zero) : sz (4 * K + 2) (x.div y) := by
  rw [← div_fr x h0]
  have hz := sz_mul hx (fr_sz (a := na y) (b := -nb y) (d := 1) (by omega) hy.1 (by rw [ab_neg]; exact hy.2.1) (by rw [ln_one]; exact hK))
  refine fr_sz (div_ne x h0) ?_ ?_ ?_
  · have := ab_mul_ln hz.1 (ab_nat_ln hy.2.2); omega
  · have := ab_mul_ln hz.2.1 (ab_nat_ln hy.2.2); omega
  · have h1 := ab_add_ln (ab_mul_ln hy.1 hy.1) (ab_mul_ln hy.2.1 hy.2.1); have := nat_mul_ln hz.2.2 h1; omega
end Go.Proofs.Ytdpjknjlhchmcaa
