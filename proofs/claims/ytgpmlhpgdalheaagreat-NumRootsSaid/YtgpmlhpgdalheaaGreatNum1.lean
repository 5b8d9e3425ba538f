/- Num in memory; over, den. Conditions: at most 2^40 words. -/
import Derived.Test.YtgpmlhpgdalheaaGreatWhole
import Derived.Test.YtgpmlhpgdalheaaGreatCx
namespace Go.Proofs.YtgpmlhpgdalheaaGreat
open Go.RowKit Pl
set_option linter.unusedVariables false
set_option linter.unusedSimpArgs false

/-- The denominator as it is kept: none for 1. -/
def un (q : Cx) : Nat := if nd q = 1 then 0 else nd q

/-- The three numbers of a Num. -/
def Num3 (w : World) (A1 A2 A3 : Option Addr) (q : Cx) : Prop := Nat32 w A1 (ab (na q)) ∧ Nat32 w A2 (ab (nb q)) ∧ Nat32 w A3 (un q)
theorem Num3.to {w w' : World} {A1 A2 A3 : Option Addr} {q : Cx} (h : Num3 w A1 A2 A3 q) (hb : Below w.heap.size w w') : Num3 w' A1 A2 A3 q := ⟨h.1.to hb, h.2.1.to hb, h.2.2.to hb⟩
theorem Num3.setBox {w : World} {A1 A2 A3 : Option Addr} {q : Cx} {R i : Nat} {v u : Value} (h : Num3 w A1 A2 A3 q) (hv : w.cell? ⟨R, 0, none⟩ = some v) (hne : ∀ k m, v ≠ .int k m) : Num3 (w.setCell ⟨R, i, none⟩ u) A1 A2 A3 q :=
  ⟨h.1.setBox hv hne, h.2.1.setBox hv hne, h.2.2.setBox hv hne⟩

/-- A call hands back a Num, and turns nothing that was there. -/
def RetNum (w : World) (q : Cx) (e : Ending) (w' : World) : Prop := ∃ A1 A2 A3, e = .returned (.agg #[.bool (sn (na q)), .slice A1 (ln (ab (na q))) (ln (ab (na q))), .bool (sn (nb q)), .slice A2 (ln (ab (nb q))) (ln (ab (nb q))), .slice A3 (ln (un q)) (ln (un q))]) ∧ Num3 w' A1 A2 A3 q ∧ Below w.heap.size w w'

theorem keepo {w : World} {b i R j : Nat} {v u : Value} (h : w.cell? ⟨b, i, none⟩ = some v) (hne : b ≠ R ∨ i ≠ j) : (w.setCell ⟨R, j, none⟩ u).cell? ⟨b, i, none⟩ = some v :=
  (World.cell?_setCell_other _ _ _ _ (by intro e; injection e with e1 e2; rcases hne with h | h <;> omega)).trans h
theorem keepof {w : World} {b i R j : Nat} {v : Bool} {u : Value} (h : w.frozen? ⟨b, i, none⟩ = v) : (w.setCell ⟨R, j, none⟩ u).frozen? ⟨b, i, none⟩ = v := by
  rw [← h]; simp

theorem retNum_fin {w W : World} {q : Cx} {A1 A2 A3 : Option Addr} {R : Nat} {c : Bool} (hB : Hid (Below w.heap.size w W)) (h1 : Num3 W A1 A2 A3 q) (hR : w.heap.size ≤ R) (r0 : W.cell? ⟨R, 0, none⟩ = some (.bool c)) :
    RetNum w q (.returned (.agg #[.bool (sn (na q)), .slice A1 (ln (ab (na q))) (ln (ab (na q))), .bool (sn (nb q)), .slice A2 (ln (ab (nb q))) (ln (ab (nb q))), .slice A3 (ln (un q)) (ln (un q))]))
      (((((W.setCell ⟨R, 0, none⟩ (.bool (sn (na q)))).setCell ⟨R, 1, none⟩ (.slice A1 (ln (ab (na q))) (ln (ab (na q))))).setCell ⟨R, 2, none⟩ (.bool (sn (nb q)))).setCell ⟨R, 3, none⟩ (.slice A2 (ln (ab (nb q))) (ln (ab (nb q))))).setCell ⟨R, 4, none⟩ (.slice A3 (ln (un q)) (ln (un q)))) := by
  have c1 := cell_self (u := .bool (sn (na q))) r0
  have c2 := keepo (R := R) (j := 1) (u := .slice A1 (ln (ab (na q))) (ln (ab (na q)))) c1 (by simp)
  have c3 := keepo (R := R) (j := 2) (u := .bool (sn (nb q))) c2 (by simp)
  have c4 := keepo (R := R) (j := 3) (u := .slice A2 (ln (ab (nb q))) (ln (ab (nb q)))) c3 (by simp)
  have nb : ∀ (b : Bool) k m, Value.bool b ≠ .int k m := by intro b k m e; cases e
  exact ⟨A1, A2, A3, rfl, ((((h1.setBox r0 (nb _)).setBox c1 (nb _)).setBox c2 (nb _)).setBox c3 (nb _)).setBox c4 (nb _),
    ((((hB.out.setCell (by exact hR) _).setCell (by exact hR) _).setCell (by exact hR) _).setCell (by exact hR) _).setCell (by exact hR) _⟩

/-- What 'over' leaves is the one form of the fraction. -/
theorem over_form {a b : Int} {d : Nat} (hd : d ≠ 0) : sn (na (fr a b d)) = sn a ∧ ab (na (fr a b d)) = ab a / gg a b d ∧ sn (nb (fr a b d)) = sn b ∧ ab (nb (fr a b d)) = ab b / gg a b d ∧ nd (fr a b d) = d / gg a b d := by
  obtain ⟨h1, h2, h3⟩ := fr_form a b (d := d) (by omega)
  have hg := gg_pos a b (d := d) (by omega)
  obtain ⟨g1, g2, g3⟩ := gg_dvd a b d
  have key : ∀ x : Int, gg a b d ∣ x.natAbs → sn (sg x (x.natAbs / gg a b d)) = sn x ∧ ab (sg x (x.natAbs / gg a b d)) = ab x / gg a b d := by
    intro x hx
    refine ⟨?_, by unfold ab; rw [sg_abs]⟩
    unfold sn sg
    by_cases hx0 : x < 0
    · have : 0 < x.natAbs / gg a b d := Nat.div_pos (Nat.le_of_dvd (by omega) hx) hg
      rw [if_pos hx0, decide_eq_true hx0, decide_eq_true_eq]; omega
    · rw [if_neg hx0, decide_eq_false hx0, decide_eq_false_iff_not]
      generalize x.natAbs / gg a b d = z
      omega
  rw [h1, h2, h3]
  exact ⟨(key a g1).1, (key a g1).2, (key b g2).1, (key b g2).2, rfl⟩

/-- The end of 'over'. -/
theorem retNum_over {w W : World} {a b : Int} {d g : Nat} (hd : d ≠ 0) (hg : g = gg a b d) {A1 A2 A3 : Option Addr} {R : Nat} {c : Bool} (hB : Hid (Below w.heap.size w W)) (h1 : Nat32 W A1 (ab a / g)) (h2 : Nat32 W A2 (ab b / g)) (h3 : Nat32 W A3 (if d / g = 1 then 0 else d / g))
    (hR : w.heap.size ≤ R) (r0 : W.cell? ⟨R, 0, none⟩ = some (.bool c)) (m1 m2 m3 : Nat) (e1 : m1 = ln (ab a / g)) (e2 : m2 = ln (ab b / g)) (e3 : m3 = ln (if d / g = 1 then 0 else d / g)) :
    RetNum w (fr a b d) (.returned (.agg #[.bool (sn a), .slice A1 m1 m1, .bool (sn b), .slice A2 m2 m2, .slice A3 m3 m3]))
      (((((W.setCell ⟨R, 0, none⟩ (.bool (sn a))).setCell ⟨R, 1, none⟩ (.slice A1 m1 m1)).setCell ⟨R, 2, none⟩ (.bool (sn b))).setCell ⟨R, 3, none⟩ (.slice A2 m2 m2)).setCell ⟨R, 4, none⟩ (.slice A3 m3 m3)) := by
  obtain ⟨f1, f2, f3, f4, f5⟩ := over_form (a := a) (b := b) hd
  subst hg
  have e : un (fr a b d) = if d / gg a b d = 1 then 0 else d / gg a b d := by unfold un; rw [f5]
  have := retNum_fin (q := fr a b d) (A1 := A1) (A2 := A2) (A3 := A3) hB ⟨by rw [f2]; exact h1, by rw [f4]; exact h2, by rw [e]; exact h3⟩ hR r0
  rw [f1, f2, f3, f4, e, ← e1, ← e2, ← e3] at this
  exact this

theorem gcd_ln {a b K : Nat} (ha : ln a ≤ K) (hb : ln b ≤ K) : ln (Nat.gcd a b) ≤ K := by
  by_cases h : b = 0
  · rw [h, Nat.gcd_zero_right]; exact ha
  · exact Nat.le_trans (ln_mono (Nat.gcd_le_right _ (by omega))) hb

set_option maxHeartbeats 4000000 in
theorem over_00 (a b : Int) (d : Nat) (A B D : Option Addr) (w : World) (hx : Nat32 w A (ab a)) (hy : Nat32 w B (ab b)) (hd : Nat32 w D d) (hbx : ln (ab a) ≤ 1099511627776) (hby : ln (ab b) ≤ 1099511627776) (hbd : ln d ≤ 1099511627776) (hd0 : d ≠ 0) (g : Nat) (hg : g = gg a b d) (hg1 : g = 1) (h1 : d / g ≠ 1) :
    Calls Tryz.prog 96 #[.agg #[.bool (sn (a)), .slice A (ln (ab (a))) (ln (ab (a)))], .agg #[.bool (sn (b)), .slice B (ln (ab (b))) (ln (ab (b)))], .slice D (ln d) (ln d)] w (RetNum w (fr a b d)) := by
  have g0 : 0 < g := by rw [hg]; exact gg_pos a b (by omega)
  have t : decide (g = 1) = true := by simpa using hg1
  have t1 : decide (d / g = 1) = false := by simpa using h1
  have HG := Lib.hid hg
  have hgl : ln g ≤ 1099511627776 := Nat.le_trans (ln_mono (Nat.le_of_dvd (by omega) (by rw [hg]; exact (gg_dvd a b d).2.2))) hbd
  have H1 := Lib.hid h1
  have HG1 := Lib.hid hg1
  have T1 := Lib.hid t1
  clear hg hg1 h1 t1
  go_enter Tryz.func96, Tryz.ntmps96
  go_wp2_with fail
  obtain ⟨W, hW⟩ : ∃ W : World, W = (((w.alloc (.cells #[.bool (sn (a)), .slice A (ln (ab (a))) (ln (ab (a)))] 28)).alloc (.cells #[.bool (sn (b)), .slice B (ln (ab (b))) (ln (ab (b)))] 28)).alloc (.cells #[.bool false, .slice none 0 0, .bool false, .slice none 0 0, .slice none 0 0] 30)) := ⟨_, rfl⟩
  have s0_0 : W.cell? ⟨w.heap.size, 0, none⟩ = some (.bool (sn (a))) := by subst hW; go_simp
  have g0_0 : W.frozen? ⟨w.heap.size, 0, none⟩ = false := by subst hW; go_simp
  have s0_1 : W.cell? ⟨w.heap.size, 1, none⟩ = some (.slice A (ln (ab (a))) (ln (ab (a)))) := by subst hW; go_simp
  have g0_1 : W.frozen? ⟨w.heap.size, 1, none⟩ = false := by subst hW; go_simp
  have s1_0 : W.cell? ⟨w.heap.size + 1, 0, none⟩ = some (.bool (sn (b))) := by subst hW; go_simp
  have g1_0 : W.frozen? ⟨w.heap.size + 1, 0, none⟩ = false := by subst hW; go_simp
  have s1_1 : W.cell? ⟨w.heap.size + 1, 1, none⟩ = some (.slice B (ln (ab (b))) (ln (ab (b)))) := by subst hW; go_simp
  have g1_1 : W.frozen? ⟨w.heap.size + 1, 1, none⟩ = false := by subst hW; go_simp
  have r0 : W.cell? ⟨w.heap.size + 1 + 1, 0, none⟩ = some (.bool false) := by subst hW; go_simp
  have f0 : W.frozen? ⟨w.heap.size + 1 + 1, 0, none⟩ = false := by subst hW; go_simp
  have r1 : W.cell? ⟨w.heap.size + 1 + 1, 1, none⟩ = some (.slice none 0 0) := by subst hW; go_simp
  have f1 : W.frozen? ⟨w.heap.size + 1 + 1, 1, none⟩ = false := by subst hW; go_simp
  have r2 : W.cell? ⟨w.heap.size + 1 + 1, 2, none⟩ = some (.bool false) := by subst hW; go_simp
  have f2 : W.frozen? ⟨w.heap.size + 1 + 1, 2, none⟩ = false := by subst hW; go_simp
  have r3 : W.cell? ⟨w.heap.size + 1 + 1, 3, none⟩ = some (.slice none 0 0) := by subst hW; go_simp
  have f3 : W.frozen? ⟨w.heap.size + 1 + 1, 3, none⟩ = false := by subst hW; go_simp
  have r4 : W.cell? ⟨w.heap.size + 1 + 1, 4, none⟩ = some (.slice none 0 0) := by subst hW; go_simp
  have f4 : W.frozen? ⟨w.heap.size + 1 + 1, 4, none⟩ = false := by subst hW; go_simp
  have HW : Below w.heap.size w W := by subst hW; exact ((((Below.refl w.heap.size w).alloc (Nat.le_refl _) _).alloc (by simp) _).alloc (by simp; omega) _)
  have l0 : w.heap.size < W.heap.size := by subst hW; simp <;> omega
  have l1 : w.heap.size + 1 < W.heap.size := by subst hW; simp <;> omega
  have l2 : w.heap.size + 1 + 1 < W.heap.size := by subst hW; simp
  have n0 : w.heap.size ≠ w.heap.size + 1 + 1 := by omega
  have n1 : w.heap.size + 1 ≠ w.heap.size + 1 + 1 := by omega
  replace hx := hx.to HW
  replace hy := hy.to HW
  replace hd := hd.to HW
  rw [← hW]
  clear hW
  replace HW := Lib.hid HW
  refine (gcd_any (ab a) (ab b) A B _ (by exact hx) (by exact hy) hbx hby).mono ?_
  rintro e w1 ⟨A1, rfl, h1, hb1⟩
  replace s0_0 := keepc hb1 s0_0 l0
  replace g0_0 := keepf hb1 g0_0 l0
  replace s0_1 := keepc hb1 s0_1 l0
  replace g0_1 := keepf hb1 g0_1 l0
  replace s1_0 := keepc hb1 s1_0 l1
  replace g1_0 := keepf hb1 g1_0 l1
  replace s1_1 := keepc hb1 s1_1 l1
  replace g1_1 := keepf hb1 g1_1 l1
  replace r0 := keepc hb1 r0 l2
  replace f0 := keepf hb1 f0 l2
  replace r1 := keepc hb1 r1 l2
  replace f1 := keepf hb1 f1 l2
  replace r2 := keepc hb1 r2 l2
  replace f2 := keepf hb1 f2 l2
  replace r3 := keepc hb1 r3 l2
  replace f3 := keepf hb1 f3 l2
  replace r4 := keepc hb1 r4 l2
  replace f4 := keepf hb1 f4 l2
  replace l0 := Nat.lt_of_lt_of_le l0 hb1.size
  replace l1 := Nat.lt_of_lt_of_le l1 hb1.size
  replace l2 := Nat.lt_of_lt_of_le l2 hb1.size
  replace hx := hx.to hb1
  replace hy := hy.to hb1
  replace hd := hd.to hb1
  replace HW := Lib.hid (hstep HW hb1)
  clear hb1
  go_wp2_with fail
  have hl1 : ln (Nat.gcd (ab a) (ab b)) ≤ 1099511627776 := gcd_ln hbx hby
  refine (gcd_any (Nat.gcd (ab a) (ab b)) d A1 D _ (by exact h1) (by exact hd) hl1 hbd).mono ?_
  rintro e w2 ⟨A2, rfl, h2, hb2⟩
  replace s0_0 := keepc hb2 s0_0 l0
  replace g0_0 := keepf hb2 g0_0 l0
  replace s0_1 := keepc hb2 s0_1 l0
  replace g0_1 := keepf hb2 g0_1 l0
  replace s1_0 := keepc hb2 s1_0 l1
  replace g1_0 := keepf hb2 g1_0 l1
  replace s1_1 := keepc hb2 s1_1 l1
  replace g1_1 := keepf hb2 g1_1 l1
  replace r0 := keepc hb2 r0 l2
  replace f0 := keepf hb2 f0 l2
  replace r1 := keepc hb2 r1 l2
  replace f1 := keepf hb2 f1 l2
  replace r2 := keepc hb2 r2 l2
  replace f2 := keepf hb2 f2 l2
  replace r3 := keepc hb2 r3 l2
  replace f3 := keepf hb2 f3 l2
  replace r4 := keepc hb2 r4 l2
  replace f4 := keepf hb2 f4 l2
  replace l0 := Nat.lt_of_lt_of_le l0 hb2.size
  replace l1 := Nat.lt_of_lt_of_le l1 hb2.size
  replace l2 := Nat.lt_of_lt_of_le l2 hb2.size
  replace hx := hx.to hb2
  replace hy := hy.to hb2
  replace hd := hd.to hb2
  replace h1 := h1.to hb2
  replace HW := Lib.hid (hstep HW hb2)
  clear hb2
  rw [show Nat.gcd (Nat.gcd (ab a) (ab b)) d = g from HG.out.symm] at h2 ⊢
  go_wp2_with fail
  refine (one_any g A2 _ (by exact h2)).mono ?_
  rintro e w3 ⟨rfl, rfl⟩
  go_wp2_with fail
  have t1 := T1.out
  rw [HG1.out, Nat.div_one] at t1
  refine (one_any (d) D _ (by exact hd)).mono ?_
  rintro e w4 ⟨rfl, rfl⟩
  go_wp2_with fail
  have hone := H1.out
  exact bodyPost_ret (v := .agg #[.bool (sn a), .slice A (ln (ab a)) (ln (ab a)), .bool (sn b), .slice B (ln (ab b)) (ln (ab b)), .slice D (ln (d)) (ln (d))]) (by simp [results, Tryz.results96, go_sem, r0, r1, r2, r3, r4, f0, f1, f2, f3, f4]) rfl (retNum_over hd0 HG.out HW (by rw [HG1.out, Nat.div_one]; exact hx) (by rw [HG1.out, Nat.div_one]; exact hy) (by rw [if_neg hone]; rw [HG1.out, Nat.div_one]; exact hd) (by omega) r0 _ _ _ (by rw [HG1.out, Nat.div_one]) (by rw [HG1.out, Nat.div_one]) (by rw [if_neg hone, HG1.out, Nat.div_one]))

set_option maxHeartbeats 4000000 in
theorem over_01 (a b : Int) (d : Nat) (A B D : Option Addr) (w : World) (hx : Nat32 w A (ab a)) (hy : Nat32 w B (ab b)) (hd : Nat32 w D d) (hbx : ln (ab a) ≤ 1099511627776) (hby : ln (ab b) ≤ 1099511627776) (hbd : ln d ≤ 1099511627776) (hd0 : d ≠ 0) (g : Nat) (hg : g = gg a b d) (hg1 : g = 1) (h1 : d / g = 1) :
    Calls Tryz.prog 96 #[.agg #[.bool (sn (a)), .slice A (ln (ab (a))) (ln (ab (a)))], .agg #[.bool (sn (b)), .slice B (ln (ab (b))) (ln (ab (b)))], .slice D (ln d) (ln d)] w (RetNum w (fr a b d)) := by
  have g0 : 0 < g := by rw [hg]; exact gg_pos a b (by omega)
  have t : decide (g = 1) = true := by simpa using hg1
  have t1 : decide (d / g = 1) = true := by simpa using h1
  have HG := Lib.hid hg
  have hgl : ln g ≤ 1099511627776 := Nat.le_trans (ln_mono (Nat.le_of_dvd (by omega) (by rw [hg]; exact (gg_dvd a b d).2.2))) hbd
  have H1 := Lib.hid h1
  have HG1 := Lib.hid hg1
  have T1 := Lib.hid t1
  clear hg hg1 h1 t1
  go_enter Tryz.func96, Tryz.ntmps96
  go_wp2_with fail
  obtain ⟨W, hW⟩ : ∃ W : World, W = (((w.alloc (.cells #[.bool (sn (a)), .slice A (ln (ab (a))) (ln (ab (a)))] 28)).alloc (.cells #[.bool (sn (b)), .slice B (ln (ab (b))) (ln (ab (b)))] 28)).alloc (.cells #[.bool false, .slice none 0 0, .bool false, .slice none 0 0, .slice none 0 0] 30)) := ⟨_, rfl⟩
  have s0_0 : W.cell? ⟨w.heap.size, 0, none⟩ = some (.bool (sn (a))) := by subst hW; go_simp
  have g0_0 : W.frozen? ⟨w.heap.size, 0, none⟩ = false := by subst hW; go_simp
  have s0_1 : W.cell? ⟨w.heap.size, 1, none⟩ = some (.slice A (ln (ab (a))) (ln (ab (a)))) := by subst hW; go_simp
  have g0_1 : W.frozen? ⟨w.heap.size, 1, none⟩ = false := by subst hW; go_simp
  have s1_0 : W.cell? ⟨w.heap.size + 1, 0, none⟩ = some (.bool (sn (b))) := by subst hW; go_simp
  have g1_0 : W.frozen? ⟨w.heap.size + 1, 0, none⟩ = false := by subst hW; go_simp
  have s1_1 : W.cell? ⟨w.heap.size + 1, 1, none⟩ = some (.slice B (ln (ab (b))) (ln (ab (b)))) := by subst hW; go_simp
  have g1_1 : W.frozen? ⟨w.heap.size + 1, 1, none⟩ = false := by subst hW; go_simp
  have r0 : W.cell? ⟨w.heap.size + 1 + 1, 0, none⟩ = some (.bool false) := by subst hW; go_simp
  have f0 : W.frozen? ⟨w.heap.size + 1 + 1, 0, none⟩ = false := by subst hW; go_simp
  have r1 : W.cell? ⟨w.heap.size + 1 + 1, 1, none⟩ = some (.slice none 0 0) := by subst hW; go_simp
  have f1 : W.frozen? ⟨w.heap.size + 1 + 1, 1, none⟩ = false := by subst hW; go_simp
  have r2 : W.cell? ⟨w.heap.size + 1 + 1, 2, none⟩ = some (.bool false) := by subst hW; go_simp
  have f2 : W.frozen? ⟨w.heap.size + 1 + 1, 2, none⟩ = false := by subst hW; go_simp
  have r3 : W.cell? ⟨w.heap.size + 1 + 1, 3, none⟩ = some (.slice none 0 0) := by subst hW; go_simp
  have f3 : W.frozen? ⟨w.heap.size + 1 + 1, 3, none⟩ = false := by subst hW; go_simp
  have r4 : W.cell? ⟨w.heap.size + 1 + 1, 4, none⟩ = some (.slice none 0 0) := by subst hW; go_simp
  have f4 : W.frozen? ⟨w.heap.size + 1 + 1, 4, none⟩ = false := by subst hW; go_simp
  have HW : Below w.heap.size w W := by subst hW; exact ((((Below.refl w.heap.size w).alloc (Nat.le_refl _) _).alloc (by simp) _).alloc (by simp; omega) _)
  have l0 : w.heap.size < W.heap.size := by subst hW; simp <;> omega
  have l1 : w.heap.size + 1 < W.heap.size := by subst hW; simp <;> omega
  have l2 : w.heap.size + 1 + 1 < W.heap.size := by subst hW; simp
  have n0 : w.heap.size ≠ w.heap.size + 1 + 1 := by omega
  have n1 : w.heap.size + 1 ≠ w.heap.size + 1 + 1 := by omega
  replace hx := hx.to HW
  replace hy := hy.to HW
  replace hd := hd.to HW
  rw [← hW]
  clear hW
  replace HW := Lib.hid HW
  refine (gcd_any (ab a) (ab b) A B _ (by exact hx) (by exact hy) hbx hby).mono ?_
  rintro e w1 ⟨A1, rfl, h1, hb1⟩
  replace s0_0 := keepc hb1 s0_0 l0
  replace g0_0 := keepf hb1 g0_0 l0
  replace s0_1 := keepc hb1 s0_1 l0
  replace g0_1 := keepf hb1 g0_1 l0
  replace s1_0 := keepc hb1 s1_0 l1
  replace g1_0 := keepf hb1 g1_0 l1
  replace s1_1 := keepc hb1 s1_1 l1
  replace g1_1 := keepf hb1 g1_1 l1
  replace r0 := keepc hb1 r0 l2
  replace f0 := keepf hb1 f0 l2
  replace r1 := keepc hb1 r1 l2
  replace f1 := keepf hb1 f1 l2
  replace r2 := keepc hb1 r2 l2
  replace f2 := keepf hb1 f2 l2
  replace r3 := keepc hb1 r3 l2
  replace f3 := keepf hb1 f3 l2
  replace r4 := keepc hb1 r4 l2
  replace f4 := keepf hb1 f4 l2
  replace l0 := Nat.lt_of_lt_of_le l0 hb1.size
  replace l1 := Nat.lt_of_lt_of_le l1 hb1.size
  replace l2 := Nat.lt_of_lt_of_le l2 hb1.size
  replace hx := hx.to hb1
  replace hy := hy.to hb1
  replace hd := hd.to hb1
  replace HW := Lib.hid (hstep HW hb1)
  clear hb1
  go_wp2_with fail
  have hl1 : ln (Nat.gcd (ab a) (ab b)) ≤ 1099511627776 := gcd_ln hbx hby
  refine (gcd_any (Nat.gcd (ab a) (ab b)) d A1 D _ (by exact h1) (by exact hd) hl1 hbd).mono ?_
  rintro e w2 ⟨A2, rfl, h2, hb2⟩
  replace s0_0 := keepc hb2 s0_0 l0
  replace g0_0 := keepf hb2 g0_0 l0
  replace s0_1 := keepc hb2 s0_1 l0
  replace g0_1 := keepf hb2 g0_1 l0
  replace s1_0 := keepc hb2 s1_0 l1
  replace g1_0 := keepf hb2 g1_0 l1
  replace s1_1 := keepc hb2 s1_1 l1
  replace g1_1 := keepf hb2 g1_1 l1
  replace r0 := keepc hb2 r0 l2
  replace f0 := keepf hb2 f0 l2
  replace r1 := keepc hb2 r1 l2
  replace f1 := keepf hb2 f1 l2
  replace r2 := keepc hb2 r2 l2
  replace f2 := keepf hb2 f2 l2
  replace r3 := keepc hb2 r3 l2
  replace f3 := keepf hb2 f3 l2
  replace r4 := keepc hb2 r4 l2
  replace f4 := keepf hb2 f4 l2
  replace l0 := Nat.lt_of_lt_of_le l0 hb2.size
  replace l1 := Nat.lt_of_lt_of_le l1 hb2.size
  replace l2 := Nat.lt_of_lt_of_le l2 hb2.size
  replace hx := hx.to hb2
  replace hy := hy.to hb2
  replace hd := hd.to hb2
  replace h1 := h1.to hb2
  replace HW := Lib.hid (hstep HW hb2)
  clear hb2
  rw [show Nat.gcd (Nat.gcd (ab a) (ab b)) d = g from HG.out.symm] at h2 ⊢
  go_wp2_with fail
  refine (one_any g A2 _ (by exact h2)).mono ?_
  rintro e w3 ⟨rfl, rfl⟩
  go_wp2_with fail
  have t1 := T1.out
  rw [HG1.out, Nat.div_one] at t1
  refine (one_any (d) D _ (by exact hd)).mono ?_
  rintro e w4 ⟨rfl, rfl⟩
  go_wp2_with fail
  have hone := H1.out
  exact bodyPost_ret (v := .agg #[.bool (sn a), .slice A (ln (ab a)) (ln (ab a)), .bool (sn b), .slice B (ln (ab b)) (ln (ab b)), .slice none 0 0]) (by simp [results, Tryz.results96, go_sem, r0, r1, r2, r3, r4, f0, f1, f2, f3, f4]) rfl (retNum_over hd0 HG.out HW (by rw [HG1.out, Nat.div_one]; exact hx) (by rw [HG1.out, Nat.div_one]; exact hy) (by rw [if_pos hone]; exact Nat32.zero _ _) (by omega) r0 _ _ _ (by rw [HG1.out, Nat.div_one]) (by rw [HG1.out, Nat.div_one]) (by rw [if_pos hone, ln_zero]))

set_option maxHeartbeats 4000000 in
theorem over_10 (a b : Int) (d : Nat) (A B D : Option Addr) (w : World) (hx : Nat32 w A (ab a)) (hy : Nat32 w B (ab b)) (hd : Nat32 w D d) (hbx : ln (ab a) ≤ 1099511627776) (hby : ln (ab b) ≤ 1099511627776) (hbd : ln d ≤ 1099511627776) (hd0 : d ≠ 0) (g : Nat) (hg : g = gg a b d) (hg1 : g ≠ 1) (h1 : d / g ≠ 1) :
    Calls Tryz.prog 96 #[.agg #[.bool (sn (a)), .slice A (ln (ab (a))) (ln (ab (a)))], .agg #[.bool (sn (b)), .slice B (ln (ab (b))) (ln (ab (b)))], .slice D (ln d) (ln d)] w (RetNum w (fr a b d)) := by
  have g0 : 0 < g := by rw [hg]; exact gg_pos a b (by omega)
  have t : decide (g = 1) = false := by simpa using hg1
  have t1 : decide (d / g = 1) = false := by simpa using h1
  have HG := Lib.hid hg
  have hgl : ln g ≤ 1099511627776 := Nat.le_trans (ln_mono (Nat.le_of_dvd (by omega) (by rw [hg]; exact (gg_dvd a b d).2.2))) hbd
  have H1 := Lib.hid h1
  have HG1 := Lib.hid hg1
  have T1 := Lib.hid t1
  clear hg hg1 h1 t1
  go_enter Tryz.func96, Tryz.ntmps96
  go_wp2_with fail
  obtain ⟨W, hW⟩ : ∃ W : World, W = (((w.alloc (.cells #[.bool (sn (a)), .slice A (ln (ab (a))) (ln (ab (a)))] 28)).alloc (.cells #[.bool (sn (b)), .slice B (ln (ab (b))) (ln (ab (b)))] 28)).alloc (.cells #[.bool false, .slice none 0 0, .bool false, .slice none 0 0, .slice none 0 0] 30)) := ⟨_, rfl⟩
  have s0_0 : W.cell? ⟨w.heap.size, 0, none⟩ = some (.bool (sn (a))) := by subst hW; go_simp
  have g0_0 : W.frozen? ⟨w.heap.size, 0, none⟩ = false := by subst hW; go_simp
  have s0_1 : W.cell? ⟨w.heap.size, 1, none⟩ = some (.slice A (ln (ab (a))) (ln (ab (a)))) := by subst hW; go_simp
  have g0_1 : W.frozen? ⟨w.heap.size, 1, none⟩ = false := by subst hW; go_simp
  have s1_0 : W.cell? ⟨w.heap.size + 1, 0, none⟩ = some (.bool (sn (b))) := by subst hW; go_simp
  have g1_0 : W.frozen? ⟨w.heap.size + 1, 0, none⟩ = false := by subst hW; go_simp
  have s1_1 : W.cell? ⟨w.heap.size + 1, 1, none⟩ = some (.slice B (ln (ab (b))) (ln (ab (b)))) := by subst hW; go_simp
  have g1_1 : W.frozen? ⟨w.heap.size + 1, 1, none⟩ = false := by subst hW; go_simp
  have r0 : W.cell? ⟨w.heap.size + 1 + 1, 0, none⟩ = some (.bool false) := by subst hW; go_simp
  have f0 : W.frozen? ⟨w.heap.size + 1 + 1, 0, none⟩ = false := by subst hW; go_simp
  have r1 : W.cell? ⟨w.heap.size + 1 + 1, 1, none⟩ = some (.slice none 0 0) := by subst hW; go_simp
  have f1 : W.frozen? ⟨w.heap.size + 1 + 1, 1, none⟩ = false := by subst hW; go_simp
  have r2 : W.cell? ⟨w.heap.size + 1 + 1, 2, none⟩ = some (.bool false) := by subst hW; go_simp
  have f2 : W.frozen? ⟨w.heap.size + 1 + 1, 2, none⟩ = false := by subst hW; go_simp
  have r3 : W.cell? ⟨w.heap.size + 1 + 1, 3, none⟩ = some (.slice none 0 0) := by subst hW; go_simp
  have f3 : W.frozen? ⟨w.heap.size + 1 + 1, 3, none⟩ = false := by subst hW; go_simp
  have r4 : W.cell? ⟨w.heap.size + 1 + 1, 4, none⟩ = some (.slice none 0 0) := by subst hW; go_simp
  have f4 : W.frozen? ⟨w.heap.size + 1 + 1, 4, none⟩ = false := by subst hW; go_simp
  have HW : Below w.heap.size w W := by subst hW; exact ((((Below.refl w.heap.size w).alloc (Nat.le_refl _) _).alloc (by simp) _).alloc (by simp; omega) _)
  have l0 : w.heap.size < W.heap.size := by subst hW; simp <;> omega
  have l1 : w.heap.size + 1 < W.heap.size := by subst hW; simp <;> omega
  have l2 : w.heap.size + 1 + 1 < W.heap.size := by subst hW; simp
  have n0 : w.heap.size ≠ w.heap.size + 1 + 1 := by omega
  have n1 : w.heap.size + 1 ≠ w.heap.size + 1 + 1 := by omega
  replace hx := hx.to HW
  replace hy := hy.to HW
  replace hd := hd.to HW
  rw [← hW]
  clear hW
  replace HW := Lib.hid HW
  refine (gcd_any (ab a) (ab b) A B _ (by exact hx) (by exact hy) hbx hby).mono ?_
  rintro e w1 ⟨A1, rfl, h1, hb1⟩
  replace s0_0 := keepc hb1 s0_0 l0
  replace g0_0 := keepf hb1 g0_0 l0
  replace s0_1 := keepc hb1 s0_1 l0
  replace g0_1 := keepf hb1 g0_1 l0
  replace s1_0 := keepc hb1 s1_0 l1
  replace g1_0 := keepf hb1 g1_0 l1
  replace s1_1 := keepc hb1 s1_1 l1
  replace g1_1 := keepf hb1 g1_1 l1
  replace r0 := keepc hb1 r0 l2
  replace f0 := keepf hb1 f0 l2
  replace r1 := keepc hb1 r1 l2
  replace f1 := keepf hb1 f1 l2
  replace r2 := keepc hb1 r2 l2
  replace f2 := keepf hb1 f2 l2
  replace r3 := keepc hb1 r3 l2
  replace f3 := keepf hb1 f3 l2
  replace r4 := keepc hb1 r4 l2
  replace f4 := keepf hb1 f4 l2
  replace l0 := Nat.lt_of_lt_of_le l0 hb1.size
  replace l1 := Nat.lt_of_lt_of_le l1 hb1.size
  replace l2 := Nat.lt_of_lt_of_le l2 hb1.size
  replace hx := hx.to hb1
  replace hy := hy.to hb1
  replace hd := hd.to hb1
  replace HW := Lib.hid (hstep HW hb1)
  clear hb1
  go_wp2_with fail
  have hl1 : ln (Nat.gcd (ab a) (ab b)) ≤ 1099511627776 := gcd_ln hbx hby
  refine (gcd_any (Nat.gcd (ab a) (ab b)) d A1 D _ (by exact h1) (by exact hd) hl1 hbd).mono ?_
  rintro e w2 ⟨A2, rfl, h2, hb2⟩
  replace s0_0 := keepc hb2 s0_0 l0
  replace g0_0 := keepf hb2 g0_0 l0
  replace s0_1 := keepc hb2 s0_1 l0
  replace g0_1 := keepf hb2 g0_1 l0
  replace s1_0 := keepc hb2 s1_0 l1
  replace g1_0 := keepf hb2 g1_0 l1
  replace s1_1 := keepc hb2 s1_1 l1
  replace g1_1 := keepf hb2 g1_1 l1
  replace r0 := keepc hb2 r0 l2
  replace f0 := keepf hb2 f0 l2
  replace r1 := keepc hb2 r1 l2
  replace f1 := keepf hb2 f1 l2
  replace r2 := keepc hb2 r2 l2
  replace f2 := keepf hb2 f2 l2
  replace r3 := keepc hb2 r3 l2
  replace f3 := keepf hb2 f3 l2
  replace r4 := keepc hb2 r4 l2
  replace f4 := keepf hb2 f4 l2
  replace l0 := Nat.lt_of_lt_of_le l0 hb2.size
  replace l1 := Nat.lt_of_lt_of_le l1 hb2.size
  replace l2 := Nat.lt_of_lt_of_le l2 hb2.size
  replace hx := hx.to hb2
  replace hy := hy.to hb2
  replace hd := hd.to hb2
  replace h1 := h1.to hb2
  replace HW := Lib.hid (hstep HW hb2)
  clear hb2
  rw [show Nat.gcd (Nat.gcd (ab a) (ab b)) d = g from HG.out.symm] at h2 ⊢
  go_wp2_with fail
  refine (one_any g A2 _ (by exact h2)).mono ?_
  rintro e w3 ⟨rfl, rfl⟩
  go_wp2_with fail
  refine (div_any (ab a) g A A2 _ (by exact hx) (by exact h2) hbx hgl (by omega)).mono ?_
  rintro e w4 ⟨A4, R4, rfl, h4, q4, hb4⟩
  replace s0_0 := keepc hb4 s0_0 l0
  replace g0_0 := keepf hb4 g0_0 l0
  replace s0_1 := keepc hb4 s0_1 l0
  replace g0_1 := keepf hb4 g0_1 l0
  replace s1_0 := keepc hb4 s1_0 l1
  replace g1_0 := keepf hb4 g1_0 l1
  replace s1_1 := keepc hb4 s1_1 l1
  replace g1_1 := keepf hb4 g1_1 l1
  replace r0 := keepc hb4 r0 l2
  replace f0 := keepf hb4 f0 l2
  replace r1 := keepc hb4 r1 l2
  replace f1 := keepf hb4 f1 l2
  replace r2 := keepc hb4 r2 l2
  replace f2 := keepf hb4 f2 l2
  replace r3 := keepc hb4 r3 l2
  replace f3 := keepf hb4 f3 l2
  replace r4 := keepc hb4 r4 l2
  replace f4 := keepf hb4 f4 l2
  replace l0 := Nat.lt_of_lt_of_le l0 hb4.size
  replace l1 := Nat.lt_of_lt_of_le l1 hb4.size
  replace l2 := Nat.lt_of_lt_of_le l2 hb4.size
  replace hx := hx.to hb4
  replace hy := hy.to hb4
  replace hd := hd.to hb4
  replace h1 := h1.to hb4
  replace h2 := h2.to hb4
  replace HW := Lib.hid (hstep HW hb4)
  clear hb4
  go_wp2_with fail
  obtain ⟨x1, hx1⟩ : ∃ X : World, X = w4.setCell ⟨w.heap.size, 1, none⟩ (.slice A4 (ln (ab a / g)) (ln (ab a / g))) := ⟨_, rfl⟩
  replace hx := hx.setBox (i := 1) (u := .slice A4 (ln (ab a / g)) (ln (ab a / g))) s0_0 (by intro k m e; cases e)
  rw [← hx1] at hx
  replace hy := hy.setBox (i := 1) (u := .slice A4 (ln (ab a / g)) (ln (ab a / g))) s0_0 (by intro k m e; cases e)
  rw [← hx1] at hy
  replace hd := hd.setBox (i := 1) (u := .slice A4 (ln (ab a / g)) (ln (ab a / g))) s0_0 (by intro k m e; cases e)
  rw [← hx1] at hd
  replace h1 := h1.setBox (i := 1) (u := .slice A4 (ln (ab a / g)) (ln (ab a / g))) s0_0 (by intro k m e; cases e)
  rw [← hx1] at h1
  replace h2 := h2.setBox (i := 1) (u := .slice A4 (ln (ab a / g)) (ln (ab a / g))) s0_0 (by intro k m e; cases e)
  rw [← hx1] at h2
  replace h4 := h4.setBox (i := 1) (u := .slice A4 (ln (ab a / g)) (ln (ab a / g))) s0_0 (by intro k m e; cases e)
  rw [← hx1] at h4
  replace HW := Lib.hid (show Below w.heap.size w x1 by rw [hx1]; exact HW.out.setCell (by show w.heap.size ≤ w.heap.size; omega) _)
  replace s0_0 := keepo (R := w.heap.size) (j := 1) (u := .slice A4 (ln (ab a / g)) (ln (ab a / g))) s0_0 (by omega)
  rw [← hx1] at s0_0
  replace g0_0 := keepof (R := w.heap.size) (j := 1) (u := .slice A4 (ln (ab a / g)) (ln (ab a / g))) g0_0
  rw [← hx1] at g0_0
  replace s0_1 := cell_self (u := .slice A4 (ln (ab a / g)) (ln (ab a / g))) s0_1
  rw [← hx1] at s0_1
  replace g0_1 := keepof (R := w.heap.size) (j := 1) (u := .slice A4 (ln (ab a / g)) (ln (ab a / g))) g0_1
  rw [← hx1] at g0_1
  replace s1_0 := keepo (R := w.heap.size) (j := 1) (u := .slice A4 (ln (ab a / g)) (ln (ab a / g))) s1_0 (by omega)
  rw [← hx1] at s1_0
  replace g1_0 := keepof (R := w.heap.size) (j := 1) (u := .slice A4 (ln (ab a / g)) (ln (ab a / g))) g1_0
  rw [← hx1] at g1_0
  replace s1_1 := keepo (R := w.heap.size) (j := 1) (u := .slice A4 (ln (ab a / g)) (ln (ab a / g))) s1_1 (by omega)
  rw [← hx1] at s1_1
  replace g1_1 := keepof (R := w.heap.size) (j := 1) (u := .slice A4 (ln (ab a / g)) (ln (ab a / g))) g1_1
  rw [← hx1] at g1_1
  replace r0 := keepo (R := w.heap.size) (j := 1) (u := .slice A4 (ln (ab a / g)) (ln (ab a / g))) r0 (by omega)
  rw [← hx1] at r0
  replace f0 := keepof (R := w.heap.size) (j := 1) (u := .slice A4 (ln (ab a / g)) (ln (ab a / g))) f0
  rw [← hx1] at f0
  replace r1 := keepo (R := w.heap.size) (j := 1) (u := .slice A4 (ln (ab a / g)) (ln (ab a / g))) r1 (by omega)
  rw [← hx1] at r1
  replace f1 := keepof (R := w.heap.size) (j := 1) (u := .slice A4 (ln (ab a / g)) (ln (ab a / g))) f1
  rw [← hx1] at f1
  replace r2 := keepo (R := w.heap.size) (j := 1) (u := .slice A4 (ln (ab a / g)) (ln (ab a / g))) r2 (by omega)
  rw [← hx1] at r2
  replace f2 := keepof (R := w.heap.size) (j := 1) (u := .slice A4 (ln (ab a / g)) (ln (ab a / g))) f2
  rw [← hx1] at f2
  replace r3 := keepo (R := w.heap.size) (j := 1) (u := .slice A4 (ln (ab a / g)) (ln (ab a / g))) r3 (by omega)
  rw [← hx1] at r3
  replace f3 := keepof (R := w.heap.size) (j := 1) (u := .slice A4 (ln (ab a / g)) (ln (ab a / g))) f3
  rw [← hx1] at f3
  replace r4 := keepo (R := w.heap.size) (j := 1) (u := .slice A4 (ln (ab a / g)) (ln (ab a / g))) r4 (by omega)
  rw [← hx1] at r4
  replace f4 := keepof (R := w.heap.size) (j := 1) (u := .slice A4 (ln (ab a / g)) (ln (ab a / g))) f4
  rw [← hx1] at f4
  replace l0 : w.heap.size < x1.heap.size := by rw [hx1]; simpa [World.setCell] using l0
  replace l1 : w.heap.size + 1 < x1.heap.size := by rw [hx1]; simpa [World.setCell] using l1
  replace l2 : w.heap.size + 1 + 1 < x1.heap.size := by rw [hx1]; simpa [World.setCell] using l2
  rw [← hx1]
  clear hx1
  refine (div_any (ab b) g B A2 _ (by exact hy) (by exact h2) hby hgl (by omega)).mono ?_
  rintro e w5 ⟨A5, R5, rfl, h5, q5, hb5⟩
  replace s0_0 := keepc hb5 s0_0 l0
  replace g0_0 := keepf hb5 g0_0 l0
  replace s0_1 := keepc hb5 s0_1 l0
  replace g0_1 := keepf hb5 g0_1 l0
  replace s1_0 := keepc hb5 s1_0 l1
  replace g1_0 := keepf hb5 g1_0 l1
  replace s1_1 := keepc hb5 s1_1 l1
  replace g1_1 := keepf hb5 g1_1 l1
  replace r0 := keepc hb5 r0 l2
  replace f0 := keepf hb5 f0 l2
  replace r1 := keepc hb5 r1 l2
  replace f1 := keepf hb5 f1 l2
  replace r2 := keepc hb5 r2 l2
  replace f2 := keepf hb5 f2 l2
  replace r3 := keepc hb5 r3 l2
  replace f3 := keepf hb5 f3 l2
  replace r4 := keepc hb5 r4 l2
  replace f4 := keepf hb5 f4 l2
  replace l0 := Nat.lt_of_lt_of_le l0 hb5.size
  replace l1 := Nat.lt_of_lt_of_le l1 hb5.size
  replace l2 := Nat.lt_of_lt_of_le l2 hb5.size
  replace hx := hx.to hb5
  replace hy := hy.to hb5
  replace hd := hd.to hb5
  replace h1 := h1.to hb5
  replace h2 := h2.to hb5
  replace h4 := h4.to hb5
  replace HW := Lib.hid (hstep HW hb5)
  clear hb5
  go_wp2_with fail
  obtain ⟨x2, hx2⟩ : ∃ X : World, X = w5.setCell ⟨w.heap.size + 1, 1, none⟩ (.slice A5 (ln (ab b / g)) (ln (ab b / g))) := ⟨_, rfl⟩
  replace hx := hx.setBox (i := 1) (u := .slice A5 (ln (ab b / g)) (ln (ab b / g))) s1_0 (by intro k m e; cases e)
  rw [← hx2] at hx
  replace hy := hy.setBox (i := 1) (u := .slice A5 (ln (ab b / g)) (ln (ab b / g))) s1_0 (by intro k m e; cases e)
  rw [← hx2] at hy
  replace hd := hd.setBox (i := 1) (u := .slice A5 (ln (ab b / g)) (ln (ab b / g))) s1_0 (by intro k m e; cases e)
  rw [← hx2] at hd
  replace h1 := h1.setBox (i := 1) (u := .slice A5 (ln (ab b / g)) (ln (ab b / g))) s1_0 (by intro k m e; cases e)
  rw [← hx2] at h1
  replace h2 := h2.setBox (i := 1) (u := .slice A5 (ln (ab b / g)) (ln (ab b / g))) s1_0 (by intro k m e; cases e)
  rw [← hx2] at h2
  replace h4 := h4.setBox (i := 1) (u := .slice A5 (ln (ab b / g)) (ln (ab b / g))) s1_0 (by intro k m e; cases e)
  rw [← hx2] at h4
  replace h5 := h5.setBox (i := 1) (u := .slice A5 (ln (ab b / g)) (ln (ab b / g))) s1_0 (by intro k m e; cases e)
  rw [← hx2] at h5
  replace HW := Lib.hid (show Below w.heap.size w x2 by rw [hx2]; exact HW.out.setCell (by show w.heap.size ≤ w.heap.size + 1; omega) _)
  replace s0_0 := keepo (R := w.heap.size + 1) (j := 1) (u := .slice A5 (ln (ab b / g)) (ln (ab b / g))) s0_0 (by omega)
  rw [← hx2] at s0_0
  replace g0_0 := keepof (R := w.heap.size + 1) (j := 1) (u := .slice A5 (ln (ab b / g)) (ln (ab b / g))) g0_0
  rw [← hx2] at g0_0
  replace s0_1 := keepo (R := w.heap.size + 1) (j := 1) (u := .slice A5 (ln (ab b / g)) (ln (ab b / g))) s0_1 (by omega)
  rw [← hx2] at s0_1
  replace g0_1 := keepof (R := w.heap.size + 1) (j := 1) (u := .slice A5 (ln (ab b / g)) (ln (ab b / g))) g0_1
  rw [← hx2] at g0_1
  replace s1_0 := keepo (R := w.heap.size + 1) (j := 1) (u := .slice A5 (ln (ab b / g)) (ln (ab b / g))) s1_0 (by omega)
  rw [← hx2] at s1_0
  replace g1_0 := keepof (R := w.heap.size + 1) (j := 1) (u := .slice A5 (ln (ab b / g)) (ln (ab b / g))) g1_0
  rw [← hx2] at g1_0
  replace s1_1 := cell_self (u := .slice A5 (ln (ab b / g)) (ln (ab b / g))) s1_1
  rw [← hx2] at s1_1
  replace g1_1 := keepof (R := w.heap.size + 1) (j := 1) (u := .slice A5 (ln (ab b / g)) (ln (ab b / g))) g1_1
  rw [← hx2] at g1_1
  replace r0 := keepo (R := w.heap.size + 1) (j := 1) (u := .slice A5 (ln (ab b / g)) (ln (ab b / g))) r0 (by omega)
  rw [← hx2] at r0
  replace f0 := keepof (R := w.heap.size + 1) (j := 1) (u := .slice A5 (ln (ab b / g)) (ln (ab b / g))) f0
  rw [← hx2] at f0
  replace r1 := keepo (R := w.heap.size + 1) (j := 1) (u := .slice A5 (ln (ab b / g)) (ln (ab b / g))) r1 (by omega)
  rw [← hx2] at r1
  replace f1 := keepof (R := w.heap.size + 1) (j := 1) (u := .slice A5 (ln (ab b / g)) (ln (ab b / g))) f1
  rw [← hx2] at f1
  replace r2 := keepo (R := w.heap.size + 1) (j := 1) (u := .slice A5 (ln (ab b / g)) (ln (ab b / g))) r2 (by omega)
  rw [← hx2] at r2
  replace f2 := keepof (R := w.heap.size + 1) (j := 1) (u := .slice A5 (ln (ab b / g)) (ln (ab b / g))) f2
  rw [← hx2] at f2
  replace r3 := keepo (R := w.heap.size + 1) (j := 1) (u := .slice A5 (ln (ab b / g)) (ln (ab b / g))) r3 (by omega)
  rw [← hx2] at r3
  replace f3 := keepof (R := w.heap.size + 1) (j := 1) (u := .slice A5 (ln (ab b / g)) (ln (ab b / g))) f3
  rw [← hx2] at f3
  replace r4 := keepo (R := w.heap.size + 1) (j := 1) (u := .slice A5 (ln (ab b / g)) (ln (ab b / g))) r4 (by omega)
  rw [← hx2] at r4
  replace f4 := keepof (R := w.heap.size + 1) (j := 1) (u := .slice A5 (ln (ab b / g)) (ln (ab b / g))) f4
  rw [← hx2] at f4
  replace l0 : w.heap.size < x2.heap.size := by rw [hx2]; simpa [World.setCell] using l0
  replace l1 : w.heap.size + 1 < x2.heap.size := by rw [hx2]; simpa [World.setCell] using l1
  replace l2 : w.heap.size + 1 + 1 < x2.heap.size := by rw [hx2]; simpa [World.setCell] using l2
  rw [← hx2]
  clear hx2
  refine (div_any d g D A2 _ (by exact hd) (by exact h2) hbd hgl (by omega)).mono ?_
  rintro e w6 ⟨A6, R6, rfl, h6, q6, hb6⟩
  replace s0_0 := keepc hb6 s0_0 l0
  replace g0_0 := keepf hb6 g0_0 l0
  replace s0_1 := keepc hb6 s0_1 l0
  replace g0_1 := keepf hb6 g0_1 l0
  replace s1_0 := keepc hb6 s1_0 l1
  replace g1_0 := keepf hb6 g1_0 l1
  replace s1_1 := keepc hb6 s1_1 l1
  replace g1_1 := keepf hb6 g1_1 l1
  replace r0 := keepc hb6 r0 l2
  replace f0 := keepf hb6 f0 l2
  replace r1 := keepc hb6 r1 l2
  replace f1 := keepf hb6 f1 l2
  replace r2 := keepc hb6 r2 l2
  replace f2 := keepf hb6 f2 l2
  replace r3 := keepc hb6 r3 l2
  replace f3 := keepf hb6 f3 l2
  replace r4 := keepc hb6 r4 l2
  replace f4 := keepf hb6 f4 l2
  replace l0 := Nat.lt_of_lt_of_le l0 hb6.size
  replace l1 := Nat.lt_of_lt_of_le l1 hb6.size
  replace l2 := Nat.lt_of_lt_of_le l2 hb6.size
  replace hx := hx.to hb6
  replace hy := hy.to hb6
  replace hd := hd.to hb6
  replace h1 := h1.to hb6
  replace h2 := h2.to hb6
  replace h4 := h4.to hb6
  replace h5 := h5.to hb6
  replace HW := Lib.hid (hstep HW hb6)
  clear hb6
  go_wp2_with fail
  have t1 := T1.out
  refine (one_any (d / g) A6 _ (by exact h6)).mono ?_
  rintro e w7 ⟨rfl, rfl⟩
  go_wp2_with fail
  have hone := H1.out
  exact bodyPost_ret (v := .agg #[.bool (sn a), .slice A4 (ln (ab a / g)) (ln (ab a / g)), .bool (sn b), .slice A5 (ln (ab b / g)) (ln (ab b / g)), .slice A6 (ln (d / g)) (ln (d / g))]) (by simp [results, Tryz.results96, go_sem, r0, r1, r2, r3, r4, f0, f1, f2, f3, f4]) rfl (retNum_over hd0 HG.out HW (by exact h4) (by exact h5) (by rw [if_neg hone]; exact h6) (by omega) r0 _ _ _ rfl rfl (by rw [if_neg hone]))

set_option maxHeartbeats 4000000 in
theorem over_11 (a b : Int) (d : Nat) (A B D : Option Addr) (w : World) (hx : Nat32 w A (ab a)) (hy : Nat32 w B (ab b)) (hd : Nat32 w D d) (hbx : ln (ab a) ≤ 1099511627776) (hby : ln (ab b) ≤ 1099511627776) (hbd : ln d ≤ 1099511627776) (hd0 : d ≠ 0) (g : Nat) (hg : g = gg a b d) (hg1 : g ≠ 1) (h1 : d / g = 1) :
    Calls Tryz.prog 96 #[.agg #[.bool (sn (a)), .slice A (ln (ab (a))) (ln (ab (a)))], .agg #[.bool (sn (b)), .slice B (ln (ab (b))) (ln (ab (b)))], .slice D (ln d) (ln d)] w (RetNum w (fr a b d)) := by
  have g0 : 0 < g := by rw [hg]; exact gg_pos a b (by omega)
  have t : decide (g = 1) = false := by simpa using hg1
  have t1 : decide (d / g = 1) = true := by simpa using h1
  have HG := Lib.hid hg
  have hgl : ln g ≤ 1099511627776 := Nat.le_trans (ln_mono (Nat.le_of_dvd (by omega) (by rw [hg]; exact (gg_dvd a b d).2.2))) hbd
  have H1 := Lib.hid h1
  have HG1 := Lib.hid hg1
  have T1 := Lib.hid t1
  clear hg hg1 h1 t1
  go_enter Tryz.func96, Tryz.ntmps96
  go_wp2_with fail
  obtain ⟨W, hW⟩ : ∃ W : World, W = (((w.alloc (.cells #[.bool (sn (a)), .slice A (ln (ab (a))) (ln (ab (a)))] 28)).alloc (.cells #[.bool (sn (b)), .slice B (ln (ab (b))) (ln (ab (b)))] 28)).alloc (.cells #[.bool false, .slice none 0 0, .bool false, .slice none 0 0, .slice none 0 0] 30)) := ⟨_, rfl⟩
  have s0_0 : W.cell? ⟨w.heap.size, 0, none⟩ = some (.bool (sn (a))) := by subst hW; go_simp
  have g0_0 : W.frozen? ⟨w.heap.size, 0, none⟩ = false := by subst hW; go_simp
  have s0_1 : W.cell? ⟨w.heap.size, 1, none⟩ = some (.slice A (ln (ab (a))) (ln (ab (a)))) := by subst hW; go_simp
  have g0_1 : W.frozen? ⟨w.heap.size, 1, none⟩ = false := by subst hW; go_simp
  have s1_0 : W.cell? ⟨w.heap.size + 1, 0, none⟩ = some (.bool (sn (b))) := by subst hW; go_simp
  have g1_0 : W.frozen? ⟨w.heap.size + 1, 0, none⟩ = false := by subst hW; go_simp
  have s1_1 : W.cell? ⟨w.heap.size + 1, 1, none⟩ = some (.slice B (ln (ab (b))) (ln (ab (b)))) := by subst hW; go_simp
  have g1_1 : W.frozen? ⟨w.heap.size + 1, 1, none⟩ = false := by subst hW; go_simp
  have r0 : W.cell? ⟨w.heap.size + 1 + 1, 0, none⟩ = some (.bool false) := by subst hW; go_simp
  have f0 : W.frozen? ⟨w.heap.size + 1 + 1, 0, none⟩ = false := by subst hW; go_simp
  have r1 : W.cell? ⟨w.heap.size + 1 + 1, 1, none⟩ = some (.slice none 0 0) := by subst hW; go_simp
  have f1 : W.frozen? ⟨w.heap.size + 1 + 1, 1, none⟩ = false := by subst hW; go_simp
  have r2 : W.cell? ⟨w.heap.size + 1 + 1, 2, none⟩ = some (.bool false) := by subst hW; go_simp
  have f2 : W.frozen? ⟨w.heap.size + 1 + 1, 2, none⟩ = false := by subst hW; go_simp
  have r3 : W.cell? ⟨w.heap.size + 1 + 1, 3, none⟩ = some (.slice none 0 0) := by subst hW; go_simp
  have f3 : W.frozen? ⟨w.heap.size + 1 + 1, 3, none⟩ = false := by subst hW; go_simp
  have r4 : W.cell? ⟨w.heap.size + 1 + 1, 4, none⟩ = some (.slice none 0 0) := by subst hW; go_simp
  have f4 : W.frozen? ⟨w.heap.size + 1 + 1, 4, none⟩ = false := by subst hW; go_simp
  have HW : Below w.heap.size w W := by subst hW; exact ((((Below.refl w.heap.size w).alloc (Nat.le_refl _) _).alloc (by simp) _).alloc (by simp; omega) _)
  have l0 : w.heap.size < W.heap.size := by subst hW; simp <;> omega
  have l1 : w.heap.size + 1 < W.heap.size := by subst hW; simp <;> omega
  have l2 : w.heap.size + 1 + 1 < W.heap.size := by subst hW; simp
  have n0 : w.heap.size ≠ w.heap.size + 1 + 1 := by omega
  have n1 : w.heap.size + 1 ≠ w.heap.size + 1 + 1 := by omega
  replace hx := hx.to HW
  replace hy := hy.to HW
  replace hd := hd.to HW
  rw [← hW]
  clear hW
  replace HW := Lib.hid HW
  refine (gcd_any (ab a) (ab b) A B _ (by exact hx) (by exact hy) hbx hby).mono ?_
  rintro e w1 ⟨A1, rfl, h1, hb1⟩
  replace s0_0 := keepc hb1 s0_0 l0
  replace g0_0 := keepf hb1 g0_0 l0
  replace s0_1 := keepc hb1 s0_1 l0
  replace g0_1 := keepf hb1 g0_1 l0
  replace s1_0 := keepc hb1 s1_0 l1
  replace g1_0 := keepf hb1 g1_0 l1
  replace s1_1 := keepc hb1 s1_1 l1
  replace g1_1 := keepf hb1 g1_1 l1
  replace r0 := keepc hb1 r0 l2
  replace f0 := keepf hb1 f0 l2
  replace r1 := keepc hb1 r1 l2
  replace f1 := keepf hb1 f1 l2
  replace r2 := keepc hb1 r2 l2
  replace f2 := keepf hb1 f2 l2
  replace r3 := keepc hb1 r3 l2
  replace f3 := keepf hb1 f3 l2
  replace r4 := keepc hb1 r4 l2
  replace f4 := keepf hb1 f4 l2
  replace l0 := Nat.lt_of_lt_of_le l0 hb1.size
  replace l1 := Nat.lt_of_lt_of_le l1 hb1.size
  replace l2 := Nat.lt_of_lt_of_le l2 hb1.size
  replace hx := hx.to hb1
  replace hy := hy.to hb1
  replace hd := hd.to hb1
  replace HW := Lib.hid (hstep HW hb1)
  clear hb1
  go_wp2_with fail
  have hl1 : ln (Nat.gcd (ab a) (ab b)) ≤ 1099511627776 := gcd_ln hbx hby
  refine (gcd_any (Nat.gcd (ab a) (ab b)) d A1 D _ (by exact h1) (by exact hd) hl1 hbd).mono ?_
  rintro e w2 ⟨A2, rfl, h2, hb2⟩
  replace s0_0 := keepc hb2 s0_0 l0
  replace g0_0 := keepf hb2 g0_0 l0
  replace s0_1 := keepc hb2 s0_1 l0
  replace g0_1 := keepf hb2 g0_1 l0
  replace s1_0 := keepc hb2 s1_0 l1
  replace g1_0 := keepf hb2 g1_0 l1
  replace s1_1 := keepc hb2 s1_1 l1
  replace g1_1 := keepf hb2 g1_1 l1
  replace r0 := keepc hb2 r0 l2
  replace f0 := keepf hb2 f0 l2
  replace r1 := keepc hb2 r1 l2
  replace f1 := keepf hb2 f1 l2
  replace r2 := keepc hb2 r2 l2
  replace f2 := keepf hb2 f2 l2
  replace r3 := keepc hb2 r3 l2
  replace f3 := keepf hb2 f3 l2
  replace r4 := keepc hb2 r4 l2
  replace f4 := keepf hb2 f4 l2
  replace l0 := Nat.lt_of_lt_of_le l0 hb2.size
  replace l1 := Nat.lt_of_lt_of_le l1 hb2.size
  replace l2 := Nat.lt_of_lt_of_le l2 hb2.size
  replace hx := hx.to hb2
  replace hy := hy.to hb2
  replace hd := hd.to hb2
  replace h1 := h1.to hb2
  replace HW := Lib.hid (hstep HW hb2)
  clear hb2
  rw [show Nat.gcd (Nat.gcd (ab a) (ab b)) d = g from HG.out.symm] at h2 ⊢
  go_wp2_with fail
  refine (one_any g A2 _ (by exact h2)).mono ?_
  rintro e w3 ⟨rfl, rfl⟩
  go_wp2_with fail
  refine (div_any (ab a) g A A2 _ (by exact hx) (by exact h2) hbx hgl (by omega)).mono ?_
  rintro e w4 ⟨A4, R4, rfl, h4, q4, hb4⟩
  replace s0_0 := keepc hb4 s0_0 l0
  replace g0_0 := keepf hb4 g0_0 l0
  replace s0_1 := keepc hb4 s0_1 l0
  replace g0_1 := keepf hb4 g0_1 l0
  replace s1_0 := keepc hb4 s1_0 l1
  replace g1_0 := keepf hb4 g1_0 l1
  replace s1_1 := keepc hb4 s1_1 l1
  replace g1_1 := keepf hb4 g1_1 l1
  replace r0 := keepc hb4 r0 l2
  replace f0 := keepf hb4 f0 l2
  replace r1 := keepc hb4 r1 l2
  replace f1 := keepf hb4 f1 l2
  replace r2 := keepc hb4 r2 l2
  replace f2 := keepf hb4 f2 l2
  replace r3 := keepc hb4 r3 l2
  replace f3 := keepf hb4 f3 l2
  replace r4 := keepc hb4 r4 l2
  replace f4 := keepf hb4 f4 l2
  replace l0 := Nat.lt_of_lt_of_le l0 hb4.size
  replace l1 := Nat.lt_of_lt_of_le l1 hb4.size
  replace l2 := Nat.lt_of_lt_of_le l2 hb4.size
  replace hx := hx.to hb4
  replace hy := hy.to hb4
  replace hd := hd.to hb4
  replace h1 := h1.to hb4
  replace h2 := h2.to hb4
  replace HW := Lib.hid (hstep HW hb4)
  clear hb4
  go_wp2_with fail
  obtain ⟨x1, hx1⟩ : ∃ X : World, X = w4.setCell ⟨w.heap.size, 1, none⟩ (.slice A4 (ln (ab a / g)) (ln (ab a / g))) := ⟨_, rfl⟩
  replace hx := hx.setBox (i := 1) (u := .slice A4 (ln (ab a / g)) (ln (ab a / g))) s0_0 (by intro k m e; cases e)
  rw [← hx1] at hx
  replace hy := hy.setBox (i := 1) (u := .slice A4 (ln (ab a / g)) (ln (ab a / g))) s0_0 (by intro k m e; cases e)
  rw [← hx1] at hy
  replace hd := hd.setBox (i := 1) (u := .slice A4 (ln (ab a / g)) (ln (ab a / g))) s0_0 (by intro k m e; cases e)
  rw [← hx1] at hd
  replace h1 := h1.setBox (i := 1) (u := .slice A4 (ln (ab a / g)) (ln (ab a / g))) s0_0 (by intro k m e; cases e)
  rw [← hx1] at h1
  replace h2 := h2.setBox (i := 1) (u := .slice A4 (ln (ab a / g)) (ln (ab a / g))) s0_0 (by intro k m e; cases e)
  rw [← hx1] at h2
  replace h4 := h4.setBox (i := 1) (u := .slice A4 (ln (ab a / g)) (ln (ab a / g))) s0_0 (by intro k m e; cases e)
  rw [← hx1] at h4
  replace HW := Lib.hid (show Below w.heap.size w x1 by rw [hx1]; exact HW.out.setCell (by show w.heap.size ≤ w.heap.size; omega) _)
  replace s0_0 := keepo (R := w.heap.size) (j := 1) (u := .slice A4 (ln (ab a / g)) (ln (ab a / g))) s0_0 (by omega)
  rw [← hx1] at s0_0
  replace g0_0 := keepof (R := w.heap.size) (j := 1) (u := .slice A4 (ln (ab a / g)) (ln (ab a / g))) g0_0
  rw [← hx1] at g0_0
  replace s0_1 := cell_self (u := .slice A4 (ln (ab a / g)) (ln (ab a / g))) s0_1
  rw [← hx1] at s0_1
  replace g0_1 := keepof (R := w.heap.size) (j := 1) (u := .slice A4 (ln (ab a / g)) (ln (ab a / g))) g0_1
  rw [← hx1] at g0_1
  replace s1_0 := keepo (R := w.heap.size) (j := 1) (u := .slice A4 (ln (ab a / g)) (ln (ab a / g))) s1_0 (by omega)
  rw [← hx1] at s1_0
  replace g1_0 := keepof (R := w.heap.size) (j := 1) (u := .slice A4 (ln (ab a / g)) (ln (ab a / g))) g1_0
  rw [← hx1] at g1_0
  replace s1_1 := keepo (R := w.heap.size) (j := 1) (u := .slice A4 (ln (ab a / g)) (ln (ab a / g))) s1_1 (by omega)
  rw [← hx1] at s1_1
  replace g1_1 := keepof (R := w.heap.size) (j := 1) (u := .slice A4 (ln (ab a / g)) (ln (ab a / g))) g1_1
  rw [← hx1] at g1_1
  replace r0 := keepo (R := w.heap.size) (j := 1) (u := .slice A4 (ln (ab a / g)) (ln (ab a / g))) r0 (by omega)
  rw [← hx1] at r0
  replace f0 := keepof (R := w.heap.size) (j := 1) (u := .slice A4 (ln (ab a / g)) (ln (ab a / g))) f0
  rw [← hx1] at f0
  replace r1 := keepo (R := w.heap.size) (j := 1) (u := .slice A4 (ln (ab a / g)) (ln (ab a / g))) r1 (by omega)
  rw [← hx1] at r1
  replace f1 := keepof (R := w.heap.size) (j := 1) (u := .slice A4 (ln (ab a / g)) (ln (ab a / g))) f1
  rw [← hx1] at f1
  replace r2 := keepo (R := w.heap.size) (j := 1) (u := .slice A4 (ln (ab a / g)) (ln (ab a / g))) r2 (by omega)
  rw [← hx1] at r2
  replace f2 := keepof (R := w.heap.size) (j := 1) (u := .slice A4 (ln (ab a / g)) (ln (ab a / g))) f2
  rw [← hx1] at f2
  replace r3 := keepo (R := w.heap.size) (j := 1) (u := .slice A4 (ln (ab a / g)) (ln (ab a / g))) r3 (by omega)
  rw [← hx1] at r3
  replace f3 := keepof (R := w.heap.size) (j := 1) (u := .slice A4 (ln (ab a / g)) (ln (ab a / g))) f3
  rw [← hx1] at f3
  replace r4 := keepo (R := w.heap.size) (j := 1) (u := .slice A4 (ln (ab a / g)) (ln (ab a / g))) r4 (by omega)
  rw [← hx1] at r4
  replace f4 := keepof (R := w.heap.size) (j := 1) (u := .slice A4 (ln (ab a / g)) (ln (ab a / g))) f4
  rw [← hx1] at f4
  replace l0 : w.heap.size < x1.heap.size := by rw [hx1]; simpa [World.setCell] using l0
  replace l1 : w.heap.size + 1 < x1.heap.size := by rw [hx1]; simpa [World.setCell] using l1
  replace l2 : w.heap.size + 1 + 1 < x1.heap.size := by rw [hx1]; simpa [World.setCell] using l2
  rw [← hx1]
  clear hx1
  refine (div_any (ab b) g B A2 _ (by exact hy) (by exact h2) hby hgl (by omega)).mono ?_
  rintro e w5 ⟨A5, R5, rfl, h5, q5, hb5⟩
  replace s0_0 := keepc hb5 s0_0 l0
  replace g0_0 := keepf hb5 g0_0 l0
  replace s0_1 := keepc hb5 s0_1 l0
  replace g0_1 := keepf hb5 g0_1 l0
  replace s1_0 := keepc hb5 s1_0 l1
  replace g1_0 := keepf hb5 g1_0 l1
  replace s1_1 := keepc hb5 s1_1 l1
  replace g1_1 := keepf hb5 g1_1 l1
  replace r0 := keepc hb5 r0 l2
  replace f0 := keepf hb5 f0 l2
  replace r1 := keepc hb5 r1 l2
  replace f1 := keepf hb5 f1 l2
  replace r2 := keepc hb5 r2 l2
  replace f2 := keepf hb5 f2 l2
  replace r3 := keepc hb5 r3 l2
  replace f3 := keepf hb5 f3 l2
  replace r4 := keepc hb5 r4 l2
  replace f4 := keepf hb5 f4 l2
  replace l0 := Nat.lt_of_lt_of_le l0 hb5.size
  replace l1 := Nat.lt_of_lt_of_le l1 hb5.size
  replace l2 := Nat.lt_of_lt_of_le l2 hb5.size
  replace hx := hx.to hb5
  replace hy := hy.to hb5
  replace hd := hd.to hb5
  replace h1 := h1.to hb5
  replace h2 := h2.to hb5
  replace h4 := h4.to hb5
  replace HW := Lib.hid (hstep HW hb5)
  clear hb5
  go_wp2_with fail
  obtain ⟨x2, hx2⟩ : ∃ X : World, X = w5.setCell ⟨w.heap.size + 1, 1, none⟩ (.slice A5 (ln (ab b / g)) (ln (ab b / g))) := ⟨_, rfl⟩
  replace hx := hx.setBox (i := 1) (u := .slice A5 (ln (ab b / g)) (ln (ab b / g))) s1_0 (by intro k m e; cases e)
  rw [← hx2] at hx
  replace hy := hy.setBox (i := 1) (u := .slice A5 (ln (ab b / g)) (ln (ab b / g))) s1_0 (by intro k m e; cases e)
  rw [← hx2] at hy
  replace hd := hd.setBox (i := 1) (u := .slice A5 (ln (ab b / g)) (ln (ab b / g))) s1_0 (by intro k m e; cases e)
  rw [← hx2] at hd
  replace h1 := h1.setBox (i := 1) (u := .slice A5 (ln (ab b / g)) (ln (ab b / g))) s1_0 (by intro k m e; cases e)
  rw [← hx2] at h1
  replace h2 := h2.setBox (i := 1) (u := .slice A5 (ln (ab b / g)) (ln (ab b / g))) s1_0 (by intro k m e; cases e)
  rw [← hx2] at h2
  replace h4 := h4.setBox (i := 1) (u := .slice A5 (ln (ab b / g)) (ln (ab b / g))) s1_0 (by intro k m e; cases e)
  rw [← hx2] at h4
  replace h5 := h5.setBox (i := 1) (u := .slice A5 (ln (ab b / g)) (ln (ab b / g))) s1_0 (by intro k m e; cases e)
  rw [← hx2] at h5
  replace HW := Lib.hid (show Below w.heap.size w x2 by rw [hx2]; exact HW.out.setCell (by show w.heap.size ≤ w.heap.size + 1; omega) _)
  replace s0_0 := keepo (R := w.heap.size + 1) (j := 1) (u := .slice A5 (ln (ab b / g)) (ln (ab b / g))) s0_0 (by omega)
  rw [← hx2] at s0_0
  replace g0_0 := keepof (R := w.heap.size + 1) (j := 1) (u := .slice A5 (ln (ab b / g)) (ln (ab b / g))) g0_0
  rw [← hx2] at g0_0
  replace s0_1 := keepo (R := w.heap.size + 1) (j := 1) (u := .slice A5 (ln (ab b / g)) (ln (ab b / g))) s0_1 (by omega)
  rw [← hx2] at s0_1
  replace g0_1 := keepof (R := w.heap.size + 1) (j := 1) (u := .slice A5 (ln (ab b / g)) (ln (ab b / g))) g0_1
  rw [← hx2] at g0_1
  replace s1_0 := keepo (R := w.heap.size + 1) (j := 1) (u := .slice A5 (ln (ab b / g)) (ln (ab b / g))) s1_0 (by omega)
  rw [← hx2] at s1_0
  replace g1_0 := keepof (R := w.heap.size + 1) (j := 1) (u := .slice A5 (ln (ab b / g)) (ln (ab b / g))) g1_0
  rw [← hx2] at g1_0
  replace s1_1 := cell_self (u := .slice A5 (ln (ab b / g)) (ln (ab b / g))) s1_1
  rw [← hx2] at s1_1
  replace g1_1 := keepof (R := w.heap.size + 1) (j := 1) (u := .slice A5 (ln (ab b / g)) (ln (ab b / g))) g1_1
  rw [← hx2] at g1_1
  replace r0 := keepo (R := w.heap.size + 1) (j := 1) (u := .slice A5 (ln (ab b / g)) (ln (ab b / g))) r0 (by omega)
  rw [← hx2] at r0
  replace f0 := keepof (R := w.heap.size + 1) (j := 1) (u := .slice A5 (ln (ab b / g)) (ln (ab b / g))) f0
  rw [← hx2] at f0
  replace r1 := keepo (R := w.heap.size + 1) (j := 1) (u := .slice A5 (ln (ab b / g)) (ln (ab b / g))) r1 (by omega)
  rw [← hx2] at r1
  replace f1 := keepof (R := w.heap.size + 1) (j := 1) (u := .slice A5 (ln (ab b / g)) (ln (ab b / g))) f1
  rw [← hx2] at f1
  replace r2 := keepo (R := w.heap.size + 1) (j := 1) (u := .slice A5 (ln (ab b / g)) (ln (ab b / g))) r2 (by omega)
  rw [← hx2] at r2
  replace f2 := keepof (R := w.heap.size + 1) (j := 1) (u := .slice A5 (ln (ab b / g)) (ln (ab b / g))) f2
  rw [← hx2] at f2
  replace r3 := keepo (R := w.heap.size + 1) (j := 1) (u := .slice A5 (ln (ab b / g)) (ln (ab b / g))) r3 (by omega)
  rw [← hx2] at r3
  replace f3 := keepof (R := w.heap.size + 1) (j := 1) (u := .slice A5 (ln (ab b / g)) (ln (ab b / g))) f3
  rw [← hx2] at f3
  replace r4 := keepo (R := w.heap.size + 1) (j := 1) (u := .slice A5 (ln (ab b / g)) (ln (ab b / g))) r4 (by omega)
  rw [← hx2] at r4
  replace f4 := keepof (R := w.heap.size + 1) (j := 1) (u := .slice A5 (ln (ab b / g)) (ln (ab b / g))) f4
  rw [← hx2] at f4
  replace l0 : w.heap.size < x2.heap.size := by rw [hx2]; simpa [World.setCell] using l0
  replace l1 : w.heap.size + 1 < x2.heap.size := by rw [hx2]; simpa [World.setCell] using l1
  replace l2 : w.heap.size + 1 + 1 < x2.heap.size := by rw [hx2]; simpa [World.setCell] using l2
  rw [← hx2]
  clear hx2
  refine (div_any d g D A2 _ (by exact hd) (by exact h2) hbd hgl (by omega)).mono ?_
  rintro e w6 ⟨A6, R6, rfl, h6, q6, hb6⟩
  replace s0_0 := keepc hb6 s0_0 l0
  replace g0_0 := keepf hb6 g0_0 l0
  replace s0_1 := keepc hb6 s0_1 l0
  replace g0_1 := keepf hb6 g0_1 l0
  replace s1_0 := keepc hb6 s1_0 l1
  replace g1_0 := keepf hb6 g1_0 l1
  replace s1_1 := keepc hb6 s1_1 l1
  replace g1_1 := keepf hb6 g1_1 l1
  replace r0 := keepc hb6 r0 l2
  replace f0 := keepf hb6 f0 l2
  replace r1 := keepc hb6 r1 l2
  replace f1 := keepf hb6 f1 l2
  replace r2 := keepc hb6 r2 l2
  replace f2 := keepf hb6 f2 l2
  replace r3 := keepc hb6 r3 l2
  replace f3 := keepf hb6 f3 l2
  replace r4 := keepc hb6 r4 l2
  replace f4 := keepf hb6 f4 l2
  replace l0 := Nat.lt_of_lt_of_le l0 hb6.size
  replace l1 := Nat.lt_of_lt_of_le l1 hb6.size
  replace l2 := Nat.lt_of_lt_of_le l2 hb6.size
  replace hx := hx.to hb6
  replace hy := hy.to hb6
  replace hd := hd.to hb6
  replace h1 := h1.to hb6
  replace h2 := h2.to hb6
  replace h4 := h4.to hb6
  replace h5 := h5.to hb6
  replace HW := Lib.hid (hstep HW hb6)
  clear hb6
  go_wp2_with fail
  have t1 := T1.out
  refine (one_any (d / g) A6 _ (by exact h6)).mono ?_
  rintro e w7 ⟨rfl, rfl⟩
  go_wp2_with fail
  have hone := H1.out
  exact bodyPost_ret (v := .agg #[.bool (sn a), .slice A4 (ln (ab a / g)) (ln (ab a / g)), .bool (sn b), .slice A5 (ln (ab b / g)) (ln (ab b / g)), .slice none 0 0]) (by simp [results, Tryz.results96, go_sem, r0, r1, r2, r3, r4, f0, f1, f2, f3, f4]) rfl (retNum_over hd0 HG.out HW (by exact h4) (by exact h5) (by rw [if_pos hone]; exact Nat32.zero _ _) (by omega) r0 _ _ _ rfl rfl (by rw [if_pos hone, ln_zero]))

/-- 'over(re, im, d)', d not 0. -/
theorem over_any (a b : Int) (d : Nat) (A B D : Option Addr) (w : World) (hx : Nat32 w A (ab a)) (hy : Nat32 w B (ab b)) (hd : Nat32 w D d) (hbx : ln (ab a) ≤ 1099511627776) (hby : ln (ab b) ≤ 1099511627776) (hbd : ln d ≤ 1099511627776) (hd0 : d ≠ 0) :
    Calls Tryz.prog 96 #[.agg #[.bool (sn (a)), .slice A (ln (ab (a))) (ln (ab (a)))], .agg #[.bool (sn (b)), .slice B (ln (ab (b))) (ln (ab (b)))], .slice D (ln d) (ln d)] w (RetNum w (fr a b d)) := by
  by_cases hg1 : gg a b d = 1 <;> by_cases h1 : d / gg a b d = 1
  · exact over_01 a b d A B D w hx hy hd hbx hby hbd hd0 _ rfl hg1 h1
  · exact over_00 a b d A B D w hx hy hd hbx hby hbd hd0 _ rfl hg1 h1
  · exact over_11 a b d A B D w hx hy hd hbx hby hbd hd0 _ rfl hg1 h1
  · exact over_10 a b d A B D w hx hy hd hbx hby hbd hd0 _ rfl hg1 h1

end Go.Proofs.YtgpmlhpgdalheaaGreat
