/- The plain law of 'Floor'. No program in sight. 'whole.floor', 'Num.Floor', 'Num.Re'. -/
import Derived.Test.YtgpmlhpgdalheaaGreatLawA
import Derived.Test.YtgpmlhpgdalheaaGreatOf
import Derived.Test.YtgpmlhpgdalheaaGreatNDiv
namespace Go.Proofs.YtgpmlhpgdalheaaGreat
open Go.RowKit Pl
set_option linter.unusedVariables false
set_option linter.unusedSimpArgs false

/-- The greatest integer that is not above a 2^k / d. -/
def flZ (a : Int) (d k : Nat) : Int := a * ((2 ^ k : Nat) : Int) / (d : Int)
def floorQ (x : Cx) (k : Nat) : Cx := fr (flZ (na x) (nd x) k) (flZ (nb x) (nd x) k) (2 ^ k)
theorem two_pos (k : Nat) : 0 < 2 ^ k := Nat.pow_pos (by omega)
theorem fl_part {a : Int} {d : Nat} (k : Nat) {r : Rat} (hd : 0 < d) (h : (a : Rat) = r * (d : Rat)) :
    ¬ r < (flZ a d k : Rat) / ((2 ^ k : Nat) : Rat) ∧ r < (flZ a d k : Rat) / ((2 ^ k : Nat) : Rat) + 1 / ((2 ^ k : Nat) : Rat) := by
  have hP := two_pos k
  have hdz : (0 : Int) < (d : Int) := by omega
  have h1 : flZ a d k * (d : Int) ≤ a * ((2 ^ k : Nat) : Int) := Int.ediv_mul_le _ (by omega)
  have h2 : a * ((2 ^ k : Nat) : Int) < (flZ a d k + 1) * (d : Int) := Int.lt_ediv_add_one_mul_self _ hdz
  generalize flZ a d k = f at *
  generalize 2 ^ k = P at *
  have hP' := rat_ne hP
  have c1 := (cross_lt (a := a) (b := f) (d := d) (e := P) (r := r) (s := (f : Rat) / (P : Rat)) hd hP h (by grind)).1
  have c2 := (cross_lt (a := a) (b := f + 1) (d := d) (e := P) (r := r) (s := (f : Rat) / (P : Rat) + 1 / (P : Rat)) hd hP h (by rw [Rat.intCast_add]; grind)).1
  exact ⟨fun q => by have := c1.2 q; omega, c2.1 h2⟩
theorem floor_re (x : Cx) (k : Nat) : (floorQ x k).re = (flZ (na x) (nd x) k : Rat) / ((2 ^ k : Nat) : Rat) := rfl
theorem floor_im (x : Cx) (k : Nat) : (floorQ x k).im = (flZ (nb x) (nd x) k : Rat) / ((2 ^ k : Nat) : Rat) := rfl
/-- The step of the k-th floor. -/
def stepQ (k : Nat) : Cx := ⟨1 / ((2 ^ k : Nat) : Rat), 0⟩
theorem rest_gen (r f s : Rat) (h1 : ¬ r < f) (h2 : r < f + s) : 0 ≤ (if r + -f = ((0 : Int) : Rat) then cmpR 0 0 else cmpR (r + -f) ((0 : Int) : Rat)) ∧ (if r + -f = s then cmpR 0 0 else cmpR (r + -f) s) = -1 := by
  unfold cmpR; grind
theorem rest_re (x : Cx) (k : Nat) : 0 ≤ cmpC (x.sub (floorQ x k)).reOf (Cx.ofInt 0) ∧ cmpC (x.sub (floorQ x k)).reOf (stepQ k) = -1 := by
  obtain ⟨h1, h2⟩ := fl_part k (nd_pos x) (na_eq x)
  rw [cmpC_rat, cmpC_rat]
  rw [← floor_re] at h1 h2
  exact rest_gen _ _ _ h1 h2
theorem rest_im (x : Cx) (k : Nat) : 0 ≤ cmpC (x.sub (floorQ x k)).imOf (Cx.ofInt 0) ∧ cmpC (x.sub (floorQ x k)).imOf (stepQ k) = -1 := by
  obtain ⟨h1, h2⟩ := fl_part k (nd_pos x) (nb_eq x)
  rw [cmpC_rat, cmpC_rat]
  rw [← floor_im] at h1 h2
  exact rest_gen _ _ _ h1 h2
theorem step_ne (k : Nat) : stepQ k ≠ Cx.zero := by
  intro e
  have h := congrArg Cx.re e
  have hP := rat_ne (two_pos k)
  simp only [stepQ, Cx.zero, Cx.ofInt] at h
  generalize ((2 ^ k : Nat) : Rat) = P at *
  grind
/-- A floor over its step has whole parts. -/
theorem floor_whole (x : Cx) (k : Nat) : floorQ ((floorQ x k).div (stepQ k)) 0 = (floorQ x k).div (stepQ k) := by
  have e : (floorQ x k).div (stepQ k) = fr (flZ (na x) (nd x) k) (flZ (nb x) (nd x) k) 1 := by
    have hP := rat_ne (two_pos k)
    refine Cx.ext' ?_ ?_
    · simp only [Cx.div, Cx.mul, Cx.nrm, Cx.conj, stepQ, floorQ, fr]
      generalize ((2 ^ k : Nat) : Rat) = P at *
      grind
    · simp only [Cx.div, Cx.mul, Cx.nrm, Cx.conj, stepQ, floorQ, fr]
      generalize ((2 ^ k : Nat) : Rat) = P at *
      grind
  rw [e]
  generalize flZ (na x) (nd x) k = a
  generalize flZ (nb x) (nd x) k = b
  have hr : na (fr a b 1) = a ∧ nb (fr a b 1) = b ∧ nd (fr a b 1) = 1 := of_rep ⟨by omega, by simp, by show (a : Rat) = (a : Rat) / ((1 : Nat) : Rat) * ((1 : Nat) : Rat); grind, by show (b : Rat) = (b : Rat) / ((1 : Nat) : Rat) * ((1 : Nat) : Rat); grind⟩
  unfold floorQ flZ
  rw [hr.1, hr.2.1, hr.2.2]
  simp
theorem step_mul (i j : Nat) : (ofv 1 0 (2 ^ i : Nat)).mul (ofv 1 0 (2 ^ j : Nat)) = stepQ (i + j) := by
  have h1 := rat_ne (two_pos i)
  have h2 := rat_ne (two_pos j)
  have z1 : ¬ ((2 ^ i : Nat) : Int) = 0 := by have := two_pos i; omega
  have z2 : ¬ ((2 ^ j : Nat) : Int) = 0 := by have := two_pos j; omega
  unfold ofv
  rw [if_neg z1, if_neg z2]
  refine Cx.ext' ?_ ?_
  · simp only [Cx.mul, frz, stepQ]
    rw [Nat.pow_add, Rat.natCast_mul, Rat.intCast_natCast, Rat.intCast_natCast]
    generalize ((2 ^ i : Nat) : Rat) = P at *
    generalize ((2 ^ j : Nat) : Rat) = Q at *
    grind
  · simp only [Cx.mul, frz, stepQ]
    grind
end Go.Proofs.YtgpmlhpgdalheaaGreat

namespace Go.Proofs.YtgpmlhpgdalheaaGreat
open Go.RowKit Pl
set_option linter.unusedVariables false
set_option linter.unusedSimpArgs false

theorem floor_up {a : Int} {d : Nat} (hd : d ≠ 0) (h : sn a = true) (hr : ab a % d ≠ 0) : zi (sn a) (ab a / d + 1) = a / (d : Int) := by
  have ha : a < 0 := by simpa [sn] using h
  have e : a = -((ab a : Nat) : Int) := by unfold ab; omega
  rw [h]
  unfold zi
  simp only [if_true]
  conv => rhs; rw [e]
  have h1 := Nat.div_add_mod (ab a) d
  have h2 := Nat.mod_lt (ab a) (Nat.pos_of_ne_zero hd)
  generalize ab a / d = q at *
  generalize ab a % d = r at *
  rw [← h1]
  symm
  rw [Int.ediv_eq_iff_of_pos (by omega : (0 : Int) < d)]
  constructor <;> push_cast <;> grind
theorem floor_at {a : Int} {d : Nat} (hd : d ≠ 0) (h : sn a = false ∨ ab a % d = 0) : zi (sn a) (ab a / d) = a / (d : Int) := by
  by_cases ha : a < 0
  · have hs : sn a = true := by unfold sn; simpa using ha
    have hr : ab a % d = 0 := by rcases h with h | h; rw [hs] at h; cases h; exact h
    have e : a = -((ab a : Nat) : Int) := by unfold ab; omega
    rw [hs]
    unfold zi
    simp only [if_true]
    conv => rhs; rw [e]
    have h1 := Nat.div_add_mod (ab a) d
    rw [hr, Nat.add_zero] at h1
    generalize ab a / d = q at *
    rw [← h1]
    symm
    rw [Int.natCast_mul, ← Int.mul_neg, Int.mul_ediv_cancel_left _ (by omega)]
  · have hs : sn a = false := by unfold sn; simpa using ha
    rw [hs]
    unfold zi
    simp only [Bool.false_eq_true, if_false]
    have e : a = ((ab a : Nat) : Int) := by unfold ab; omega
    conv => rhs; rw [e]
    rw [Int.natCast_ediv]
theorem add_one_any (q : Nat) (A B : Option Addr) (w : World) (hx : Nat32 w A q) (hy : Nat32 w B 1) (hb : ln q ≤ 1099511627776) :
    Calls Tryz.prog 160 #[.slice A (ln q) (ln q), .slice B 1 1] w (RetNat w (q + 1)) := by
  have h := add_any q 1 A B w hx hy (by omega) (by rw [ln_one]; omega)
  rwa [ln_one] at h

set_option maxHeartbeats 4000000 in
theorem floor_up_any (a : Int) (d : Nat) (A D : Option Addr) (w : World) (hx : Nat32 w A (ab a)) (hy : Nat32 w D d) (hbx : ln (ab a) ≤ 274877906944) (hby : ln d ≤ 274877906944) (hd0 : d ≠ 0) (h : sn a = true) (hr : ab a % d ≠ 0) :
    Calls Tryz.prog 115 #[.agg #[.bool (sn (a)), .slice A (ln (ab (a))) (ln (ab (a)))], .slice D (ln d) (ln d)] w (RetWhole w (a / (d : Int))) := by
  have HX := Lib.hid hbx
  have HY := Lib.hid hby
  have H0 := Lib.hid hd0
  have LQ : Hid (ln (ab a / d) ≤ 1099511627776) := Lib.hid (Nat.le_trans (ln_mono (Nat.div_le_self _ _)) (by omega))
  rw [← floor_up hd0 h hr]
  have HS := Lib.hid h
  have t1 : decide (0 < ln (ab a % d)) = true := by have := ln_pos hr; simpa using this
  have HT := Lib.hid t1
  clear hbx hby hd0 h hr t1
  go_enter Tryz.func115, Tryz.ntmps115
  go_wp2_with fail
  obtain ⟨W, hW⟩ : ∃ W : World, W = ((w.alloc (.cells #[.bool (sn (a)), .slice A (ln (ab (a))) (ln (ab (a)))] 28)).alloc (.cells #[.bool false, .slice none 0 0] 28)) := ⟨_, rfl⟩
  have s0_0 : W.cell? ⟨w.heap.size, 0, none⟩ = some (.bool (sn (a))) := by subst hW; go_simp
  have s0_1 : W.cell? ⟨w.heap.size, 1, none⟩ = some (.slice A (ln (ab (a))) (ln (ab (a)))) := by subst hW; go_simp
  have r0 : W.cell? ⟨w.heap.size + 1, 0, none⟩ = some (.bool false) := by subst hW; go_simp
  have f0 : W.frozen? ⟨w.heap.size + 1, 0, none⟩ = false := by subst hW; go_simp
  have r1 : W.cell? ⟨w.heap.size + 1, 1, none⟩ = some (.slice none 0 0) := by subst hW; go_simp
  have f1 : W.frozen? ⟨w.heap.size + 1, 1, none⟩ = false := by subst hW; go_simp
  have HW : Below w.heap.size w W := by subst hW; exact (((Below.refl w.heap.size w).alloc (Nat.le_refl _) _).alloc (by simp) _)
  have l0 : w.heap.size < W.heap.size := by subst hW; simp <;> omega
  have l1 : w.heap.size + 1 < W.heap.size := by subst hW; simp
  have n0 : w.heap.size ≠ w.heap.size + 1 := by omega
  replace hx := hx.to HW
  replace hy := hy.to HW
  rw [← hW]
  clear hW
  replace HW := Lib.hid HW
  refine (div_any (ab a) d A D _ (by exact hx) (by exact hy) (Nat.le_trans HX.out (by omega)) (Nat.le_trans HY.out (by omega)) H0.out).mono ?_
  rintro e w1 ⟨AQ, AR, rfl, hq, hr, hb1⟩
  replace s0_0 := keepc hb1 s0_0 l0
  replace s0_1 := keepc hb1 s0_1 l0
  replace r0 := keepc hb1 r0 l1
  replace f0 := keepf hb1 f0 l1
  replace r1 := keepc hb1 r1 l1
  replace f1 := keepf hb1 f1 l1
  replace l0 := Nat.lt_of_lt_of_le l0 hb1.size
  replace l1 := Nat.lt_of_lt_of_le l1 hb1.size
  replace hx := hx.to hb1
  replace hy := hy.to hb1
  replace HW := Lib.hid (hstep HW hb1)
  clear hb1
  have k0 := s0_0
  rw [HS.out] at s0_0
  have t1 := HT.out
  go_wp2_with fail
  replace s0_0 := k0
  refine (add_one_any (ab a / d) AQ _ _ (by exact hq.alloc _) (by exact nat1_new _ _) LQ.out).mono ?_
  rintro e w2 ⟨A2, rfl, h2, hb2⟩
  replace hb2 := unalloc hb2
  replace s0_0 := keepc hb2 s0_0 l0
  replace s0_1 := keepc hb2 s0_1 l0
  replace r0 := keepc hb2 r0 l1
  replace f0 := keepf hb2 f0 l1
  replace r1 := keepc hb2 r1 l1
  replace f1 := keepf hb2 f1 l1
  replace l0 := Nat.lt_of_lt_of_le l0 hb2.size
  replace l1 := Nat.lt_of_lt_of_le l1 hb2.size
  replace hx := hx.to hb2
  replace hy := hy.to hb2
  replace hq := hq.to hb2
  replace hr := hr.to hb2
  replace HW := Lib.hid (hstep HW hb2)
  clear hb2
  go_wp2_with fail
  refine (wholeOf_any (sn a) (ab a / d + 1) A2 _ (by exact h2)).mono ?_
  rintro e w3 ⟨A3, rfl, h3, hb3⟩
  replace s0_0 := keepc hb3 s0_0 l0
  replace s0_1 := keepc hb3 s0_1 l0
  replace r0 := keepc hb3 r0 l1
  replace f0 := keepf hb3 f0 l1
  replace r1 := keepc hb3 r1 l1
  replace f1 := keepf hb3 f1 l1
  replace l0 := Nat.lt_of_lt_of_le l0 hb3.size
  replace l1 := Nat.lt_of_lt_of_le l1 hb3.size
  replace hx := hx.to hb3
  replace hy := hy.to hb3
  replace hq := hq.to hb3
  replace hr := hr.to hb3
  replace h2 := h2.to hb3
  replace HW := Lib.hid (hstep HW hb3)
  clear hb3
  go_wp2_with fail
  exact bodyPost_ret (v := .agg #[.bool (sn (zi (sn a) (ab a / d + 1))), .slice A3 (ln (ab (zi (sn a) (ab a / d + 1)))) (ln (ab (zi (sn a) (ab a / d + 1))))]) (by simp [results, Tryz.results115, go_sem, r0, r1, f0, f1]) rfl (retWhole_fin HW h3 (by omega) r0)

set_option maxHeartbeats 4000000 in
theorem floor_pos_any (a : Int) (d : Nat) (A D : Option Addr) (w : World) (hx : Nat32 w A (ab a)) (hy : Nat32 w D d) (hbx : ln (ab a) ≤ 274877906944) (hby : ln d ≤ 274877906944) (hd0 : d ≠ 0) (h : sn a = false) :
    Calls Tryz.prog 115 #[.agg #[.bool (sn (a)), .slice A (ln (ab (a))) (ln (ab (a)))], .slice D (ln d) (ln d)] w (RetWhole w (a / (d : Int))) := by
  have HX := Lib.hid hbx
  have HY := Lib.hid hby
  have H0 := Lib.hid hd0
  have LQ : Hid (ln (ab a / d) ≤ 1099511627776) := Lib.hid (Nat.le_trans (ln_mono (Nat.div_le_self _ _)) (by omega))
  rw [← floor_at hd0 (.inl h)]
  have HS := Lib.hid h
  clear hbx hby hd0 h
  go_enter Tryz.func115, Tryz.ntmps115
  go_wp2_with fail
  obtain ⟨W, hW⟩ : ∃ W : World, W = ((w.alloc (.cells #[.bool (sn (a)), .slice A (ln (ab (a))) (ln (ab (a)))] 28)).alloc (.cells #[.bool false, .slice none 0 0] 28)) := ⟨_, rfl⟩
  have s0_0 : W.cell? ⟨w.heap.size, 0, none⟩ = some (.bool (sn (a))) := by subst hW; go_simp
  have s0_1 : W.cell? ⟨w.heap.size, 1, none⟩ = some (.slice A (ln (ab (a))) (ln (ab (a)))) := by subst hW; go_simp
  have r0 : W.cell? ⟨w.heap.size + 1, 0, none⟩ = some (.bool false) := by subst hW; go_simp
  have f0 : W.frozen? ⟨w.heap.size + 1, 0, none⟩ = false := by subst hW; go_simp
  have r1 : W.cell? ⟨w.heap.size + 1, 1, none⟩ = some (.slice none 0 0) := by subst hW; go_simp
  have f1 : W.frozen? ⟨w.heap.size + 1, 1, none⟩ = false := by subst hW; go_simp
  have HW : Below w.heap.size w W := by subst hW; exact (((Below.refl w.heap.size w).alloc (Nat.le_refl _) _).alloc (by simp) _)
  have l0 : w.heap.size < W.heap.size := by subst hW; simp <;> omega
  have l1 : w.heap.size + 1 < W.heap.size := by subst hW; simp
  have n0 : w.heap.size ≠ w.heap.size + 1 := by omega
  replace hx := hx.to HW
  replace hy := hy.to HW
  rw [← hW]
  clear hW
  replace HW := Lib.hid HW
  refine (div_any (ab a) d A D _ (by exact hx) (by exact hy) (Nat.le_trans HX.out (by omega)) (Nat.le_trans HY.out (by omega)) H0.out).mono ?_
  rintro e w1 ⟨AQ, AR, rfl, hq, hr, hb1⟩
  replace s0_0 := keepc hb1 s0_0 l0
  replace s0_1 := keepc hb1 s0_1 l0
  replace r0 := keepc hb1 r0 l1
  replace f0 := keepf hb1 f0 l1
  replace r1 := keepc hb1 r1 l1
  replace f1 := keepf hb1 f1 l1
  replace l0 := Nat.lt_of_lt_of_le l0 hb1.size
  replace l1 := Nat.lt_of_lt_of_le l1 hb1.size
  replace hx := hx.to hb1
  replace hy := hy.to hb1
  replace HW := Lib.hid (hstep HW hb1)
  clear hb1
  have k0 := s0_0
  rw [HS.out] at s0_0
  go_wp2_with fail
  replace s0_0 := k0
  refine (wholeOf_any false (ab a / d) AQ _ (by exact hq)).mono ?_
  rintro e w2 ⟨A3, rfl, h3, hb2⟩
  replace s0_0 := keepc hb2 s0_0 l0
  replace s0_1 := keepc hb2 s0_1 l0
  replace r0 := keepc hb2 r0 l1
  replace f0 := keepf hb2 f0 l1
  replace r1 := keepc hb2 r1 l1
  replace f1 := keepf hb2 f1 l1
  replace l0 := Nat.lt_of_lt_of_le l0 hb2.size
  replace l1 := Nat.lt_of_lt_of_le l1 hb2.size
  replace hx := hx.to hb2
  replace hy := hy.to hb2
  replace hq := hq.to hb2
  replace hr := hr.to hb2
  replace HW := Lib.hid (hstep HW hb2)
  clear hb2
  go_wp2_with fail
  rw [HS.out]
  exact bodyPost_ret (v := .agg #[.bool (sn (zi false (ab a / d))), .slice A3 (ln (ab (zi false (ab a / d)))) (ln (ab (zi false (ab a / d))))]) (by simp [results, Tryz.results115, go_sem, r0, r1, f0, f1]) rfl (retWhole_fin HW h3 (by omega) r0)

set_option maxHeartbeats 4000000 in
theorem floor_even_any (a : Int) (d : Nat) (A D : Option Addr) (w : World) (hx : Nat32 w A (ab a)) (hy : Nat32 w D d) (hbx : ln (ab a) ≤ 274877906944) (hby : ln d ≤ 274877906944) (hd0 : d ≠ 0) (h : sn a = true) (hr : ab a % d = 0) :
    Calls Tryz.prog 115 #[.agg #[.bool (sn (a)), .slice A (ln (ab (a))) (ln (ab (a)))], .slice D (ln d) (ln d)] w (RetWhole w (a / (d : Int))) := by
  have HX := Lib.hid hbx
  have HY := Lib.hid hby
  have H0 := Lib.hid hd0
  have LQ : Hid (ln (ab a / d) ≤ 1099511627776) := Lib.hid (Nat.le_trans (ln_mono (Nat.div_le_self _ _)) (by omega))
  rw [← floor_at hd0 (.inr hr)]
  have HS := Lib.hid h
  have t1 : decide (0 < ln (ab a % d)) = false := by rw [hr, ln_zero]; rfl
  have HT := Lib.hid t1
  clear hr t1
  clear hbx hby hd0 h
  go_enter Tryz.func115, Tryz.ntmps115
  go_wp2_with fail
  obtain ⟨W, hW⟩ : ∃ W : World, W = ((w.alloc (.cells #[.bool (sn (a)), .slice A (ln (ab (a))) (ln (ab (a)))] 28)).alloc (.cells #[.bool false, .slice none 0 0] 28)) := ⟨_, rfl⟩
  have s0_0 : W.cell? ⟨w.heap.size, 0, none⟩ = some (.bool (sn (a))) := by subst hW; go_simp
  have s0_1 : W.cell? ⟨w.heap.size, 1, none⟩ = some (.slice A (ln (ab (a))) (ln (ab (a)))) := by subst hW; go_simp
  have r0 : W.cell? ⟨w.heap.size + 1, 0, none⟩ = some (.bool false) := by subst hW; go_simp
  have f0 : W.frozen? ⟨w.heap.size + 1, 0, none⟩ = false := by subst hW; go_simp
  have r1 : W.cell? ⟨w.heap.size + 1, 1, none⟩ = some (.slice none 0 0) := by subst hW; go_simp
  have f1 : W.frozen? ⟨w.heap.size + 1, 1, none⟩ = false := by subst hW; go_simp
  have HW : Below w.heap.size w W := by subst hW; exact (((Below.refl w.heap.size w).alloc (Nat.le_refl _) _).alloc (by simp) _)
  have l0 : w.heap.size < W.heap.size := by subst hW; simp <;> omega
  have l1 : w.heap.size + 1 < W.heap.size := by subst hW; simp
  have n0 : w.heap.size ≠ w.heap.size + 1 := by omega
  replace hx := hx.to HW
  replace hy := hy.to HW
  rw [← hW]
  clear hW
  replace HW := Lib.hid HW
  refine (div_any (ab a) d A D _ (by exact hx) (by exact hy) (Nat.le_trans HX.out (by omega)) (Nat.le_trans HY.out (by omega)) H0.out).mono ?_
  rintro e w1 ⟨AQ, AR, rfl, hq, hr, hb1⟩
  replace s0_0 := keepc hb1 s0_0 l0
  replace s0_1 := keepc hb1 s0_1 l0
  replace r0 := keepc hb1 r0 l1
  replace f0 := keepf hb1 f0 l1
  replace r1 := keepc hb1 r1 l1
  replace f1 := keepf hb1 f1 l1
  replace l0 := Nat.lt_of_lt_of_le l0 hb1.size
  replace l1 := Nat.lt_of_lt_of_le l1 hb1.size
  replace hx := hx.to hb1
  replace hy := hy.to hb1
  replace HW := Lib.hid (hstep HW hb1)
  clear hb1
  have k0 := s0_0
  rw [HS.out] at s0_0
  have t1 := HT.out
  go_wp2_with fail
  replace s0_0 := k0
  refine (wholeOf_any true (ab a / d) AQ _ (by exact hq)).mono ?_
  rintro e w2 ⟨A3, rfl, h3, hb2⟩
  replace s0_0 := keepc hb2 s0_0 l0
  replace s0_1 := keepc hb2 s0_1 l0
  replace r0 := keepc hb2 r0 l1
  replace f0 := keepf hb2 f0 l1
  replace r1 := keepc hb2 r1 l1
  replace f1 := keepf hb2 f1 l1
  replace l0 := Nat.lt_of_lt_of_le l0 hb2.size
  replace l1 := Nat.lt_of_lt_of_le l1 hb2.size
  replace hx := hx.to hb2
  replace hy := hy.to hb2
  replace hq := hq.to hb2
  replace hr := hr.to hb2
  replace HW := Lib.hid (hstep HW hb2)
  clear hb2
  go_wp2_with fail
  rw [HS.out]
  exact bodyPost_ret (v := .agg #[.bool (sn (zi true (ab a / d))), .slice A3 (ln (ab (zi true (ab a / d)))) (ln (ab (zi true (ab a / d))))]) (by simp [results, Tryz.results115, go_sem, r0, r1, f0, f1]) rfl (retWhole_fin HW h3 (by omega) r0)

/-- 'x.floor(d)'. -/
theorem floor_any (a : Int) (d : Nat) (A D : Option Addr) (w : World) (hx : Nat32 w A (ab a)) (hy : Nat32 w D d) (hbx : ln (ab a) ≤ 274877906944) (hby : ln d ≤ 274877906944) (hd0 : d ≠ 0) :
    Calls Tryz.prog 115 #[.agg #[.bool (sn (a)), .slice A (ln (ab (a))) (ln (ab (a)))], .slice D (ln d) (ln d)] w (RetWhole w (a / (d : Int))) := by
  cases h : sn a with
  | false => have := floor_pos_any a d A D w hx hy hbx hby hd0 h; rwa [h] at this
  | true =>
    by_cases hr : ab a % d = 0
    · have := floor_even_any a d A D w hx hy hbx hby hd0 h hr; rwa [h] at this
    · have := floor_up_any a d A D w hx hy hbx hby hd0 h hr; rwa [h] at this

theorem sz_re {K : Nat} {x : Cx} (hx : sz K x) : sz K x.reOf := by
  rw [← re_fr]; exact fr_sz (nd_ne0 x) hx.1 (by show ln 0 ≤ K; rw [ln_zero]; omega) hx.2.2
set_option maxHeartbeats 4000000 in
theorem re_num (x : Cx) (A1 A2 A3 : Option Addr) (w : World) (hx : Num3 w A1 A2 A3 x) (hsx : sz 137438953472 x) :
    Calls Tryz.prog 40 #[.agg #[.bool (sn (na x)), .slice A1 (ln (ab (na x))) (ln (ab (na x))), .bool (sn (nb x)), .slice A2 (ln (ab (nb x))) (ln (ab (nb x))), .slice A3 (ln (un x)) (ln (un x))]] w (RetNum w x.reOf) := by
  obtain ⟨hx1, hx2, hx3⟩ := hx
  have HSX := Lib.hid hsx
  clear hsx
  rw [← re_fr]
  go_enter Tryz.func40, Tryz.ntmps40
  go_wp2_with fail
  obtain ⟨W, hW⟩ : ∃ W : World, W = ((w.alloc (.cells #[.bool (sn (na x)), .slice A1 (ln (ab (na x))) (ln (ab (na x))), .bool (sn (nb x)), .slice A2 (ln (ab (nb x))) (ln (ab (nb x))), .slice A3 (ln (un x)) (ln (un x))] 30)).alloc (.cells #[.bool false, .slice none 0 0, .bool false, .slice none 0 0, .slice none 0 0] 30)) := ⟨_, rfl⟩
  have s0_0 : W.cell? ⟨w.heap.size, 0, none⟩ = some (.bool (sn (na x))) := by subst hW; go_simp
  have s0_1 : W.cell? ⟨w.heap.size, 1, none⟩ = some (.slice A1 (ln (ab (na x))) (ln (ab (na x)))) := by subst hW; go_simp
  have s0_2 : W.cell? ⟨w.heap.size, 2, none⟩ = some (.bool (sn (nb x))) := by subst hW; go_simp
  have s0_3 : W.cell? ⟨w.heap.size, 3, none⟩ = some (.slice A2 (ln (ab (nb x))) (ln (ab (nb x)))) := by subst hW; go_simp
  have s0_4 : W.cell? ⟨w.heap.size, 4, none⟩ = some (.slice A3 (ln (un x)) (ln (un x))) := by subst hW; go_simp
  have r0 : W.cell? ⟨w.heap.size + 1, 0, none⟩ = some (.bool false) := by subst hW; go_simp
  have f0 : W.frozen? ⟨w.heap.size + 1, 0, none⟩ = false := by subst hW; go_simp
  have r1 : W.cell? ⟨w.heap.size + 1, 1, none⟩ = some (.slice none 0 0) := by subst hW; go_simp
  have f1 : W.frozen? ⟨w.heap.size + 1, 1, none⟩ = false := by subst hW; go_simp
  have r2 : W.cell? ⟨w.heap.size + 1, 2, none⟩ = some (.bool false) := by subst hW; go_simp
  have f2 : W.frozen? ⟨w.heap.size + 1, 2, none⟩ = false := by subst hW; go_simp
  have r3 : W.cell? ⟨w.heap.size + 1, 3, none⟩ = some (.slice none 0 0) := by subst hW; go_simp
  have f3 : W.frozen? ⟨w.heap.size + 1, 3, none⟩ = false := by subst hW; go_simp
  have r4 : W.cell? ⟨w.heap.size + 1, 4, none⟩ = some (.slice none 0 0) := by subst hW; go_simp
  have f4 : W.frozen? ⟨w.heap.size + 1, 4, none⟩ = false := by subst hW; go_simp
  have HW : Below w.heap.size w W := by subst hW; exact (((Below.refl w.heap.size w).alloc (Nat.le_refl _) _).alloc (by simp) _)
  have l0 : w.heap.size < W.heap.size := by subst hW; simp <;> omega
  have l1 : w.heap.size + 1 < W.heap.size := by subst hW; simp
  have n0 : w.heap.size ≠ w.heap.size + 1 := by omega
  replace hx1 := hx1.to HW
  replace hx2 := hx2.to HW
  replace hx3 := hx3.to HW
  rw [← hW]
  clear hW
  replace HW := Lib.hid HW
  go_region_held3 (fun w' => w'.cell? ⟨w.heap.size, 0, none⟩ = some (.bool (sn (na x))) ∧ w'.cell? ⟨w.heap.size, 1, none⟩ = some (.slice A1 (ln (ab (na x))) (ln (ab (na x)))) ∧ w'.cell? ⟨w.heap.size, 2, none⟩ = some (.bool (sn (nb x))) ∧ w'.cell? ⟨w.heap.size, 3, none⟩ = some (.slice A2 (ln (ab (nb x))) (ln (ab (nb x)))) ∧ w'.cell? ⟨w.heap.size, 4, none⟩ = some (.slice A3 (ln (un x)) (ln (un x)))) (first | with_reducible exact ⟨s0_0, s0_1, s0_2, s0_3, s0_4⟩ | with_reducible exact ⟨(keeps (keeps (keeps (keeps (keeps s0_0 n0) n0) n0) n0) n0), (keeps (keeps (keeps (keeps (keeps s0_1 n0) n0) n0) n0) n0), (keeps (keeps (keeps (keeps (keeps s0_2 n0) n0) n0) n0) n0), (keeps (keeps (keeps (keeps (keeps s0_3 n0) n0) n0) n0) n0), (keeps (keeps (keeps (keeps (keeps s0_4 n0) n0) n0) n0) n0)⟩ | exact ⟨s0_0, s0_1, s0_2, s0_3, s0_4⟩) (first
    | (go_at_call 89; refine (den_any x A1 A2 A3 _ (by exact num3_mk hx1 hx2 hx3)).mono ?_; rintro e w1 ⟨D1, rfl, h1, hb1⟩; have hb1 := undrew hb1; replace s0_0 := keepc hb1 s0_0 l0; replace s0_1 := keepc hb1 s0_1 l0; replace s0_2 := keepc hb1 s0_2 l0; replace s0_3 := keepc hb1 s0_3 l0; replace s0_4 := keepc hb1 s0_4 l0; replace r0 := keepc hb1 r0 l1; replace f0 := keepf hb1 f0 l1; replace r1 := keepc hb1 r1 l1; replace f1 := keepf hb1 f1 l1; replace r2 := keepc hb1 r2 l1; replace f2 := keepf hb1 f2 l1; replace r3 := keepc hb1 r3 l1; replace f3 := keepf hb1 f3 l1; replace r4 := keepc hb1 r4 l1; replace f4 := keepf hb1 f4 l1; replace l0 := Nat.lt_of_lt_of_le l0 hb1.size; replace l1 := Nat.lt_of_lt_of_le l1 hb1.size; replace hx1 := hx1.to hb1; replace hx2 := hx2.to hb1; replace hx3 := hx3.to hb1; replace HW := Lib.hid (hstep HW hb1); clear hb1)
    | (go_at_call 96; refine (over0_any (na x) (nd x) A1 D1 _ (by exact hx1) (by exact h1) (by have := HSX.out; unfold sz at this; omega) (by have := HSX.out; unfold sz at this; omega) (nd_ne0 x)).mono ?_; rintro e w2 ⟨Z1, Z2, Z3, rfl, h2, hb2⟩; replace s0_0 := keepc hb2 s0_0 l0; replace s0_1 := keepc hb2 s0_1 l0; replace s0_2 := keepc hb2 s0_2 l0; replace s0_3 := keepc hb2 s0_3 l0; replace s0_4 := keepc hb2 s0_4 l0; replace r0 := keepc hb2 r0 l1; replace f0 := keepf hb2 f0 l1; replace r1 := keepc hb2 r1 l1; replace f1 := keepf hb2 f1 l1; replace r2 := keepc hb2 r2 l1; replace f2 := keepf hb2 f2 l1; replace r3 := keepc hb2 r3 l1; replace f3 := keepf hb2 f3 l1; replace r4 := keepc hb2 r4 l1; replace f4 := keepf hb2 f4 l1; replace l0 := Nat.lt_of_lt_of_le l0 hb2.size; replace l1 := Nat.lt_of_lt_of_le l1 hb2.size; replace hx1 := hx1.to hb2; replace hx2 := hx2.to hb2; replace hx3 := hx3.to hb2; replace h1 := h1.to hb2; replace HW := Lib.hid (hstep HW hb2); clear hb2))
  go_wp2_with fail
  exact bodyPost_ret (v := .agg #[.bool (sn (na (fr (na x) 0 (nd x)))), .slice Z1 (ln (ab (na (fr (na x) 0 (nd x))))) (ln (ab (na (fr (na x) 0 (nd x))))), .bool (sn (nb (fr (na x) 0 (nd x)))), .slice Z2 (ln (ab (nb (fr (na x) 0 (nd x))))) (ln (ab (nb (fr (na x) 0 (nd x))))), .slice Z3 (ln (un (fr (na x) 0 (nd x)))) (ln (un (fr (na x) 0 (nd x))))]) (by simp [results, Tryz.results40, go_sem, r0, r1, r2, r3, r4, f0, f1, f2, f3, f4]) rfl (retNum_fin HW h2 (by omega) r0)

theorem shl_one_any (k U : Nat) (hU : U = 2 ^ k) (B : Option Addr) (w : World) (hy : Nat32 w B 1) (hk : k ≤ 1000) :
    Calls Tryz.prog 114 #[.slice B 1 1, .int .i64 (k : Nat)] w (RetNat w U) := by
  have h := shl_any 1 k B w hy (by rw [ln_one]; omega) (by omega)
  rw [ln_one, Nat.one_mul, ← hU] at h
  exact h
theorem scaled_eq (x a : Int) (n : Nat) (h0 : x = a * (n : Int)) (A B : Option Addr) (w : World) (hx : Nat32 w A (ab a)) (hy : Nat32 w B n) (hbx : ln (ab a) ≤ 1099511627776) (hby : ln n ≤ 1099511627776) :
    Calls Tryz.prog 97 #[.agg #[.bool (sn a), .slice A (ln (ab a)) (ln (ab a))], .slice B (ln n) (ln n)] w (RetWhole w x) := by
  subst h0; exact scaled_any a n A B w hx hy hbx hby
theorem floor_eq (q a : Int) (d : Nat) (h0 : q = a / (d : Int)) (A D : Option Addr) (w : World) (hx : Nat32 w A (ab a)) (hy : Nat32 w D d) (hbx : ln (ab a) ≤ 274877906944) (hby : ln d ≤ 274877906944) (hd0 : d ≠ 0) :
    Calls Tryz.prog 115 #[.agg #[.bool (sn a), .slice A (ln (ab a)) (ln (ab a))], .slice D (ln d) (ln d)] w (RetWhole w q) := by
  subst h0; exact floor_any a d A D w hx hy hbx hby hd0
theorem ab_floor (a : Int) (d : Nat) (hd : d ≠ 0) : ab (a / (d : Int)) ≤ ab a := by
  have hd' : (0 : Int) < (d : Int) := by omega
  unfold ab
  by_cases h : 0 ≤ a
  · have h1 := Int.ediv_nonneg h (Int.le_of_lt hd')
    have h2 := Int.ediv_le_self (d : Int) h
    omega
  · have h1 : a ≤ a / (d : Int) := by
      rw [Int.le_ediv_iff_mul_le hd']
      have : a * (d : Int) ≤ a * 1 := Int.mul_le_mul_of_nonpos_left (by omega) (by omega)
      omega
    have h2 : a / (d : Int) ≤ 0 := Int.le_of_lt (Int.ediv_neg_of_neg_of_pos (by omega) hd')
    omega
theorem ln_two (k : Nat) (hk : k ≤ 1000) : ln (2 ^ k) ≤ 32 := by
  have h : ∀ m : Nat, k < 32 * m → 2 ^ k < 4294967296 ^ m := fun m hm => by
    rw [show (4294967296 : Nat) = 2 ^ 32 by decide, ← Nat.pow_mul]
    exact Nat.pow_lt_pow_right (by omega) hm
  exact ln_le (h 32 (by omega))

set_option maxHeartbeats 4000000 in
theorem floor_num (x : Cx) (A1 A2 A3 : Option Addr) (w : World) (hx : Num3 w A1 A2 A3 x) (k : Int) (kk : Nat) (hk : min (max k 0) 1000 = (kk : Int)) (hsx : sz 137438953472 x) :
    Calls Tryz.prog 56 #[.agg #[.bool (sn (na x)), .slice A1 (ln (ab (na x))) (ln (ab (na x))), .bool (sn (nb x)), .slice A2 (ln (ab (nb x))) (ln (ab (nb x))), .slice A3 (ln (un x)) (ln (un x))], .int .i64 k] w (RetNum w (floorQ x kk)) := by
  obtain ⟨hx1, hx2, hx3⟩ := hx
  have HSX := Lib.hid hsx
  have HK : Hid (kk ≤ 1000) := Lib.hid (by omega)
  have HKK := Lib.hid hk
  obtain ⟨U, hU⟩ : ∃ U, U = 2 ^ kk := ⟨_, rfl⟩
  obtain ⟨X1, hX1⟩ : ∃ z, z = na x * (U : Int) := ⟨_, rfl⟩
  obtain ⟨X2, hX2⟩ : ∃ z, z = nb x * (U : Int) := ⟨_, rfl⟩
  obtain ⟨F1, hF1⟩ : ∃ z, z = X1 / (nd x : Int) := ⟨_, rfl⟩
  obtain ⟨F2, hF2⟩ : ∃ z, z = X2 / (nd x : Int) := ⟨_, rfl⟩
  rw [show floorQ x kk = fr F1 F2 U by rw [hF1, hF2, hX1, hX2, hU]; rfl]
  have LU : Hid (ln U ≤ 32) := Lib.hid (by rw [hU]; exact ln_two kk HK.out)
  have U0 : Hid (U ≠ 0) := Lib.hid (by rw [hU]; have := two_pos kk; omega)
  have L1 : Hid (ln (ab X1) ≤ 137438953504) := Lib.hid (by rw [hX1]; exact Nat.le_trans (ab_mul_ln hsx.1 (ab_nat_ln LU.out)) (by omega))
  have L2 : Hid (ln (ab X2) ≤ 137438953504) := Lib.hid (by rw [hX2]; exact Nat.le_trans (ab_mul_ln hsx.2.1 (ab_nat_ln LU.out)) (by omega))
  have M1 : Hid (ln (ab F1) ≤ 137438953504) := Lib.hid (by rw [hF1]; exact Nat.le_trans (ln_mono (ab_floor X1 _ (nd_ne0 x))) L1.out)
  have M2 : Hid (ln (ab F2) ≤ 137438953504) := Lib.hid (by rw [hF2]; exact Nat.le_trans (ln_mono (ab_floor X2 _ (nd_ne0 x))) L2.out)
  have EU := Lib.hid hU
  have E1 := Lib.hid hX1
  have E2 := Lib.hid hX2
  have G1 := Lib.hid hF1
  have G2 := Lib.hid hF2
  clear hsx hU hX1 hX2 hF1 hF2
  go_enter Tryz.func56, Tryz.ntmps56
  go_wp2_with fail
  obtain ⟨W, hW⟩ : ∃ W : World, W = ((w.alloc (.cells #[.bool (sn (na x)), .slice A1 (ln (ab (na x))) (ln (ab (na x))), .bool (sn (nb x)), .slice A2 (ln (ab (nb x))) (ln (ab (nb x))), .slice A3 (ln (un x)) (ln (un x))] 30)).alloc (.cells #[.bool false, .slice none 0 0, .bool false, .slice none 0 0, .slice none 0 0] 30)) := ⟨_, rfl⟩
  have s0_0 : W.cell? ⟨w.heap.size, 0, none⟩ = some (.bool (sn (na x))) := by subst hW; go_simp
  have s0_1 : W.cell? ⟨w.heap.size, 1, none⟩ = some (.slice A1 (ln (ab (na x))) (ln (ab (na x)))) := by subst hW; go_simp
  have s0_2 : W.cell? ⟨w.heap.size, 2, none⟩ = some (.bool (sn (nb x))) := by subst hW; go_simp
  have s0_3 : W.cell? ⟨w.heap.size, 3, none⟩ = some (.slice A2 (ln (ab (nb x))) (ln (ab (nb x)))) := by subst hW; go_simp
  have s0_4 : W.cell? ⟨w.heap.size, 4, none⟩ = some (.slice A3 (ln (un x)) (ln (un x))) := by subst hW; go_simp
  have r0 : W.cell? ⟨w.heap.size + 1, 0, none⟩ = some (.bool false) := by subst hW; go_simp
  have f0 : W.frozen? ⟨w.heap.size + 1, 0, none⟩ = false := by subst hW; go_simp
  have r1 : W.cell? ⟨w.heap.size + 1, 1, none⟩ = some (.slice none 0 0) := by subst hW; go_simp
  have f1 : W.frozen? ⟨w.heap.size + 1, 1, none⟩ = false := by subst hW; go_simp
  have r2 : W.cell? ⟨w.heap.size + 1, 2, none⟩ = some (.bool false) := by subst hW; go_simp
  have f2 : W.frozen? ⟨w.heap.size + 1, 2, none⟩ = false := by subst hW; go_simp
  have r3 : W.cell? ⟨w.heap.size + 1, 3, none⟩ = some (.slice none 0 0) := by subst hW; go_simp
  have f3 : W.frozen? ⟨w.heap.size + 1, 3, none⟩ = false := by subst hW; go_simp
  have r4 : W.cell? ⟨w.heap.size + 1, 4, none⟩ = some (.slice none 0 0) := by subst hW; go_simp
  have f4 : W.frozen? ⟨w.heap.size + 1, 4, none⟩ = false := by subst hW; go_simp
  have HW : Below w.heap.size w W := by subst hW; exact (((Below.refl w.heap.size w).alloc (Nat.le_refl _) _).alloc (by simp) _)
  have l0 : w.heap.size < W.heap.size := by subst hW; simp <;> omega
  have l1 : w.heap.size + 1 < W.heap.size := by subst hW; simp
  have n0 : w.heap.size ≠ w.heap.size + 1 := by omega
  replace hx1 := hx1.to HW
  replace hx2 := hx2.to HW
  replace hx3 := hx3.to HW
  have WS : W.heap.size = w.heap.size + 1 + 1 := by rw [hW]; simp
  rw [← hW]
  clear hW
  replace HW := Lib.hid HW
  have hnew : Nat32 (W.alloc (.cells #[.int .u32 1] 45)) (some ⟨w.heap.size + 1 + 1, 0, none⟩) 1 := by have := nat1_new W 45; rw [WS] at this; exact this
  refine (shl_one_any kk U EU.out _ _ (by exact hnew) HK.out).mono ?_
  rintro e w1 ⟨AU, rfl, hu, hb1⟩
  replace hb1 := unalloc hb1
  replace s0_0 := keepc hb1 s0_0 l0
  replace s0_1 := keepc hb1 s0_1 l0
  replace s0_2 := keepc hb1 s0_2 l0
  replace s0_3 := keepc hb1 s0_3 l0
  replace s0_4 := keepc hb1 s0_4 l0
  replace r0 := keepc hb1 r0 l1
  replace f0 := keepf hb1 f0 l1
  replace r1 := keepc hb1 r1 l1
  replace f1 := keepf hb1 f1 l1
  replace r2 := keepc hb1 r2 l1
  replace f2 := keepf hb1 f2 l1
  replace r3 := keepc hb1 r3 l1
  replace f3 := keepf hb1 f3 l1
  replace r4 := keepc hb1 r4 l1
  replace f4 := keepf hb1 f4 l1
  replace l0 := Nat.lt_of_lt_of_le l0 hb1.size
  replace l1 := Nat.lt_of_lt_of_le l1 hb1.size
  replace hx1 := hx1.to hb1
  replace hx2 := hx2.to hb1
  replace hx3 := hx3.to hb1
  replace HW := Lib.hid (hstep HW hb1)
  clear hb1
  clear hnew WS
  go_wp2_with fail
  go_region_held3 (fun w' => w'.cell? ⟨w.heap.size, 0, none⟩ = some (.bool (sn (na x))) ∧ w'.cell? ⟨w.heap.size, 1, none⟩ = some (.slice A1 (ln (ab (na x))) (ln (ab (na x)))) ∧ w'.cell? ⟨w.heap.size, 2, none⟩ = some (.bool (sn (nb x))) ∧ w'.cell? ⟨w.heap.size, 3, none⟩ = some (.slice A2 (ln (ab (nb x))) (ln (ab (nb x)))) ∧ w'.cell? ⟨w.heap.size, 4, none⟩ = some (.slice A3 (ln (un x)) (ln (un x)))) (first | with_reducible exact ⟨s0_0, s0_1, s0_2, s0_3, s0_4⟩ | with_reducible exact ⟨(keeps (keeps (keeps (keeps (keeps s0_0 n0) n0) n0) n0) n0), (keeps (keeps (keeps (keeps (keeps s0_1 n0) n0) n0) n0) n0), (keeps (keeps (keeps (keeps (keeps s0_2 n0) n0) n0) n0) n0), (keeps (keeps (keeps (keeps (keeps s0_3 n0) n0) n0) n0) n0), (keeps (keeps (keeps (keeps (keeps s0_4 n0) n0) n0) n0) n0)⟩ | exact ⟨s0_0, s0_1, s0_2, s0_3, s0_4⟩) (first
    | (have _ := mk5; go_at_call 96; refine (over_any F1 F2 U T1 T2 AU _ (by exact t1) (by exact t2) (by exact hu) (Nat.le_trans M1.out (by omega)) (Nat.le_trans M2.out (by omega)) (Nat.le_trans LU.out (by omega)) U0.out).mono ?_; rintro e w8 ⟨Z1, Z2, Z3, rfl, h2, hb8⟩; replace s0_0 := keepc hb8 s0_0 l0; replace s0_1 := keepc hb8 s0_1 l0; replace s0_2 := keepc hb8 s0_2 l0; replace s0_3 := keepc hb8 s0_3 l0; replace s0_4 := keepc hb8 s0_4 l0; replace r0 := keepc hb8 r0 l1; replace f0 := keepf hb8 f0 l1; replace r1 := keepc hb8 r1 l1; replace f1 := keepf hb8 f1 l1; replace r2 := keepc hb8 r2 l1; replace f2 := keepf hb8 f2 l1; replace r3 := keepc hb8 r3 l1; replace f3 := keepf hb8 f3 l1; replace r4 := keepc hb8 r4 l1; replace f4 := keepf hb8 f4 l1; replace l0 := Nat.lt_of_lt_of_le l0 hb8.size; replace l1 := Nat.lt_of_lt_of_le l1 hb8.size; replace hx1 := hx1.to hb8; replace hx2 := hx2.to hb8; replace hx3 := hx3.to hb8; replace hu := hu.to hb8; replace s1 := s1.to hb8; replace d1 := d1.to hb8; replace t1 := t1.to hb8; replace s2 := s2.to hb8; replace d2 := d2.to hb8; replace t2 := t2.to hb8; replace HW := Lib.hid (hstep HW hb8); clear hb8; have mk6 : True := trivial)
    | (have _ := mk4; go_at_call 115; refine (floor_eq F2 X2 (nd x) G2.out S2 D2 _ (by exact s2) (by exact d2) (Nat.le_trans L2.out (by omega)) (by have := HSX.out; unfold sz at this; omega) (nd_ne0 x)).mono ?_; rintro e w7 ⟨T2, rfl, t2, hb7⟩; replace s0_0 := keepc hb7 s0_0 l0; replace s0_1 := keepc hb7 s0_1 l0; replace s0_2 := keepc hb7 s0_2 l0; replace s0_3 := keepc hb7 s0_3 l0; replace s0_4 := keepc hb7 s0_4 l0; replace r0 := keepc hb7 r0 l1; replace f0 := keepf hb7 f0 l1; replace r1 := keepc hb7 r1 l1; replace f1 := keepf hb7 f1 l1; replace r2 := keepc hb7 r2 l1; replace f2 := keepf hb7 f2 l1; replace r3 := keepc hb7 r3 l1; replace f3 := keepf hb7 f3 l1; replace r4 := keepc hb7 r4 l1; replace f4 := keepf hb7 f4 l1; replace l0 := Nat.lt_of_lt_of_le l0 hb7.size; replace l1 := Nat.lt_of_lt_of_le l1 hb7.size; replace hx1 := hx1.to hb7; replace hx2 := hx2.to hb7; replace hx3 := hx3.to hb7; replace hu := hu.to hb7; replace s1 := s1.to hb7; replace d1 := d1.to hb7; replace t1 := t1.to hb7; replace s2 := s2.to hb7; replace d2 := d2.to hb7; replace HW := Lib.hid (hstep HW hb7); clear hb7; have mk5 : True := trivial)
    | (have _ := mk3; go_at_call 89; refine (den_any x A1 A2 A3 _ (by exact num3_mk hx1 hx2 hx3)).mono ?_; rintro e w6 ⟨D2, rfl, d2, hb6⟩; replace s0_0 := keepc hb6 s0_0 l0; replace s0_1 := keepc hb6 s0_1 l0; replace s0_2 := keepc hb6 s0_2 l0; replace s0_3 := keepc hb6 s0_3 l0; replace s0_4 := keepc hb6 s0_4 l0; replace r0 := keepc hb6 r0 l1; replace f0 := keepf hb6 f0 l1; replace r1 := keepc hb6 r1 l1; replace f1 := keepf hb6 f1 l1; replace r2 := keepc hb6 r2 l1; replace f2 := keepf hb6 f2 l1; replace r3 := keepc hb6 r3 l1; replace f3 := keepf hb6 f3 l1; replace r4 := keepc hb6 r4 l1; replace f4 := keepf hb6 f4 l1; replace l0 := Nat.lt_of_lt_of_le l0 hb6.size; replace l1 := Nat.lt_of_lt_of_le l1 hb6.size; replace hx1 := hx1.to hb6; replace hx2 := hx2.to hb6; replace hx3 := hx3.to hb6; replace hu := hu.to hb6; replace s1 := s1.to hb6; replace d1 := d1.to hb6; replace t1 := t1.to hb6; replace s2 := s2.to hb6; replace HW := Lib.hid (hstep HW hb6); clear hb6; have mk4 : True := trivial)
    | (have _ := mk2; go_at_call 97; refine (scaled_eq X2 (nb x) U E2.out A2 AU _ (by exact hx2) (by exact hu) (by have := HSX.out; unfold sz at this; omega) (Nat.le_trans LU.out (by omega))).mono ?_; rintro e w5 ⟨S2, rfl, s2, hb5⟩; replace s0_0 := keepc hb5 s0_0 l0; replace s0_1 := keepc hb5 s0_1 l0; replace s0_2 := keepc hb5 s0_2 l0; replace s0_3 := keepc hb5 s0_3 l0; replace s0_4 := keepc hb5 s0_4 l0; replace r0 := keepc hb5 r0 l1; replace f0 := keepf hb5 f0 l1; replace r1 := keepc hb5 r1 l1; replace f1 := keepf hb5 f1 l1; replace r2 := keepc hb5 r2 l1; replace f2 := keepf hb5 f2 l1; replace r3 := keepc hb5 r3 l1; replace f3 := keepf hb5 f3 l1; replace r4 := keepc hb5 r4 l1; replace f4 := keepf hb5 f4 l1; replace l0 := Nat.lt_of_lt_of_le l0 hb5.size; replace l1 := Nat.lt_of_lt_of_le l1 hb5.size; replace hx1 := hx1.to hb5; replace hx2 := hx2.to hb5; replace hx3 := hx3.to hb5; replace hu := hu.to hb5; replace s1 := s1.to hb5; replace d1 := d1.to hb5; replace t1 := t1.to hb5; replace HW := Lib.hid (hstep HW hb5); clear hb5; have mk3 : True := trivial)
    | (have _ := mk1; go_at_call 115; refine (floor_eq F1 X1 (nd x) G1.out S1 D1 _ (by exact s1) (by exact d1) (Nat.le_trans L1.out (by omega)) (by have := HSX.out; unfold sz at this; omega) (nd_ne0 x)).mono ?_; rintro e w4 ⟨T1, rfl, t1, hb4⟩; replace s0_0 := keepc hb4 s0_0 l0; replace s0_1 := keepc hb4 s0_1 l0; replace s0_2 := keepc hb4 s0_2 l0; replace s0_3 := keepc hb4 s0_3 l0; replace s0_4 := keepc hb4 s0_4 l0; replace r0 := keepc hb4 r0 l1; replace f0 := keepf hb4 f0 l1; replace r1 := keepc hb4 r1 l1; replace f1 := keepf hb4 f1 l1; replace r2 := keepc hb4 r2 l1; replace f2 := keepf hb4 f2 l1; replace r3 := keepc hb4 r3 l1; replace f3 := keepf hb4 f3 l1; replace r4 := keepc hb4 r4 l1; replace f4 := keepf hb4 f4 l1; replace l0 := Nat.lt_of_lt_of_le l0 hb4.size; replace l1 := Nat.lt_of_lt_of_le l1 hb4.size; replace hx1 := hx1.to hb4; replace hx2 := hx2.to hb4; replace hx3 := hx3.to hb4; replace hu := hu.to hb4; replace s1 := s1.to hb4; replace d1 := d1.to hb4; replace HW := Lib.hid (hstep HW hb4); clear hb4; have mk2 : True := trivial)
    | (have _ := mk0; go_at_call 89; refine (den_any x A1 A2 A3 _ (by exact num3_mk hx1 hx2 hx3)).mono ?_; rintro e w3 ⟨D1, rfl, d1, hb3⟩; replace s0_0 := keepc hb3 s0_0 l0; replace s0_1 := keepc hb3 s0_1 l0; replace s0_2 := keepc hb3 s0_2 l0; replace s0_3 := keepc hb3 s0_3 l0; replace s0_4 := keepc hb3 s0_4 l0; replace r0 := keepc hb3 r0 l1; replace f0 := keepf hb3 f0 l1; replace r1 := keepc hb3 r1 l1; replace f1 := keepf hb3 f1 l1; replace r2 := keepc hb3 r2 l1; replace f2 := keepf hb3 f2 l1; replace r3 := keepc hb3 r3 l1; replace f3 := keepf hb3 f3 l1; replace r4 := keepc hb3 r4 l1; replace f4 := keepf hb3 f4 l1; replace l0 := Nat.lt_of_lt_of_le l0 hb3.size; replace l1 := Nat.lt_of_lt_of_le l1 hb3.size; replace hx1 := hx1.to hb3; replace hx2 := hx2.to hb3; replace hx3 := hx3.to hb3; replace hu := hu.to hb3; replace s1 := s1.to hb3; replace HW := Lib.hid (hstep HW hb3); clear hb3; have mk1 : True := trivial)
    | (go_at_call 97; refine (scaled_eq X1 (na x) U E1.out A1 AU _ (by exact hx1) (by exact hu) (by have := HSX.out; unfold sz at this; omega) (Nat.le_trans LU.out (by omega))).mono ?_; rintro e w2 ⟨S1, rfl, s1, hb2⟩; have hb2 := undrew hb2; replace s0_0 := keepc hb2 s0_0 l0; replace s0_1 := keepc hb2 s0_1 l0; replace s0_2 := keepc hb2 s0_2 l0; replace s0_3 := keepc hb2 s0_3 l0; replace s0_4 := keepc hb2 s0_4 l0; replace r0 := keepc hb2 r0 l1; replace f0 := keepf hb2 f0 l1; replace r1 := keepc hb2 r1 l1; replace f1 := keepf hb2 f1 l1; replace r2 := keepc hb2 r2 l1; replace f2 := keepf hb2 f2 l1; replace r3 := keepc hb2 r3 l1; replace f3 := keepf hb2 f3 l1; replace r4 := keepc hb2 r4 l1; replace f4 := keepf hb2 f4 l1; replace l0 := Nat.lt_of_lt_of_le l0 hb2.size; replace l1 := Nat.lt_of_lt_of_le l1 hb2.size; replace hx1 := hx1.to hb2; replace hx2 := hx2.to hb2; replace hx3 := hx3.to hb2; replace hu := hu.to hb2; replace HW := Lib.hid (hstep HW hb2); clear hb2; have mk0 : True := trivial))
  go_wp2_with fail
  exact bodyPost_ret (v := .agg #[.bool (sn (na (fr F1 F2 U))), .slice Z1 (ln (ab (na (fr F1 F2 U)))) (ln (ab (na (fr F1 F2 U)))), .bool (sn (nb (fr F1 F2 U))), .slice Z2 (ln (ab (nb (fr F1 F2 U)))) (ln (ab (nb (fr F1 F2 U)))), .slice Z3 (ln (un (fr F1 F2 U))) (ln (un (fr F1 F2 U)))]) (by simp [results, Tryz.results56, go_sem, r0, r1, r2, r3, r4, f0, f1, f2, f3, f4]) rfl (retNum_fin HW h2 (by omega) r0)

end Go.Proofs.YtgpmlhpgdalheaaGreat
