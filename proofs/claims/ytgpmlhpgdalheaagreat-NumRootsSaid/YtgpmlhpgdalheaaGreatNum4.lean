/- Num: Side, Same, Cmp. Conditions: at most 2^37 words each. -/
import Derived.Test.YtgpmlhpgdalheaaGreatNum3
namespace Go.Proofs.YtgpmlhpgdalheaaGreat
open Go.RowKit Pl
set_option linter.unusedVariables false
set_option linter.unusedSimpArgs false

theorem un_inj {x y : Cx} : un x = un y ↔ nd x = nd y := by
  have hx := nd_ne0 x
  have hy := nd_ne0 y
  unfold un
  constructor
  · intro h; split at h <;> split at h <;> omega
  · intro h; rw [h]
theorem cmpZ_ne {a b : Int} (h : a ≠ b) : (cmpZ a b == 0) = false := by unfold cmpZ; rw [if_neg h]; split <;> rfl
theorem cmpN_ne {a b : Nat} (h : a ≠ b) : (cmpN a b == 0) = false := by unfold cmpN; rw [if_neg h]; split <;> rfl
theorem cmpZ_ne' {a b : Int} (h : a ≠ b) : (cmpZ a b != 0) = true := by unfold cmpZ; rw [if_neg h]; split <;> rfl

/-- 'x.cmp(whole{})'. -/
theorem wcmp0_any (a : Int) (A : Option Addr) (w : World) (hx : Nat32 w A (ab a)) (hbx : ln (ab a) ≤ 549755813888) :
    Calls Tryz.prog 108 #[.agg #[.bool (sn (a)), .slice A (ln (ab (a))) (ln (ab (a)))], .agg #[.bool false, .slice none 0 0]] w (RetInt w (cmpZ a 0)) := by
  have h := wcmp_any a 0 A none w hx (fun e => absurd rfl e) hbx (by rw [show ab 0 = 0 from rfl, ln_zero]; omega)
  rw [show ab 0 = 0 from rfl, ln_zero, sn_zero] at h
  exact h

/-- The order of two numbers by their parts. -/
def cmpC (x y : Cx) : Int := if na x * (nd y : Int) = na y * (nd x : Int) then cmpZ (nb x * (nd y : Int)) (nb y * (nd x : Int)) else cmpZ (na x * (nd y : Int)) (na y * (nd x : Int))
theorem cmpC_re {x y : Cx} (h : na x * (nd y : Int) ≠ na y * (nd x : Int)) : cmpC x y = cmpZ (na x * (nd y : Int)) (na y * (nd x : Int)) := by unfold cmpC; rw [if_neg h]
theorem cmpC_im {x y : Cx} (h : na x * (nd y : Int) = na y * (nd x : Int)) : cmpC x y = cmpZ (nb x * (nd y : Int)) (nb y * (nd x : Int)) := by unfold cmpC; rw [if_pos h]

set_option maxHeartbeats 4000000 in
theorem side_any (x : Cx) (A1 A2 A3 : Option Addr) (w : World) (hx : Num3 w A1 A2 A3 x) (hsx : sz 137438953472 x) :
    Calls Tryz.prog 52 #[.agg #[.bool (sn (na x)), .slice A1 (ln (ab (na x))) (ln (ab (na x))), .bool (sn (nb x)), .slice A2 (ln (ab (nb x))) (ln (ab (nb x))), .slice A3 (ln (un x)) (ln (un x))]] w (RetInt w (cmpZ (nb x) 0)) := by
  obtain ⟨hx1, hx2, hx3⟩ := hx
  have HSX := Lib.hid hsx
  clear hsx
  go_enter Tryz.func52, Tryz.ntmps52
  go_wp2_with fail
  obtain ⟨W, hW⟩ : ∃ W : World, W = (w.alloc (.cells #[.bool (sn (na x)), .slice A1 (ln (ab (na x))) (ln (ab (na x))), .bool (sn (nb x)), .slice A2 (ln (ab (nb x))) (ln (ab (nb x))), .slice A3 (ln (un x)) (ln (un x))] 30)) := ⟨_, rfl⟩
  have s0_0 : W.cell? ⟨w.heap.size, 0, none⟩ = some (.bool (sn (na x))) := by subst hW; go_simp
  have s0_1 : W.cell? ⟨w.heap.size, 1, none⟩ = some (.slice A1 (ln (ab (na x))) (ln (ab (na x)))) := by subst hW; go_simp
  have s0_2 : W.cell? ⟨w.heap.size, 2, none⟩ = some (.bool (sn (nb x))) := by subst hW; go_simp
  have s0_3 : W.cell? ⟨w.heap.size, 3, none⟩ = some (.slice A2 (ln (ab (nb x))) (ln (ab (nb x)))) := by subst hW; go_simp
  have s0_4 : W.cell? ⟨w.heap.size, 4, none⟩ = some (.slice A3 (ln (un x)) (ln (un x))) := by subst hW; go_simp
  have HW : Below w.heap.size w W := by subst hW; exact ((Below.refl w.heap.size w).alloc (Nat.le_refl _) _)
  have l0 : w.heap.size < W.heap.size := by subst hW; simp
  replace hx1 := hx1.to HW
  replace hx2 := hx2.to HW
  replace hx3 := hx3.to HW
  rw [← hW]
  clear hW
  replace HW := Lib.hid HW
  refine (wcmp0_any (nb x) A2 _ (by exact hx2) (by have := HSX.out; unfold sz at this; omega)).mono ?_
  rintro e w1 ⟨rfl, hb1⟩
  replace s0_0 := keepc hb1 s0_0 l0
  replace s0_1 := keepc hb1 s0_1 l0
  replace s0_2 := keepc hb1 s0_2 l0
  replace s0_3 := keepc hb1 s0_3 l0
  replace s0_4 := keepc hb1 s0_4 l0
  replace l0 := Nat.lt_of_lt_of_le l0 hb1.size
  replace hx1 := hx1.to hb1
  replace hx2 := hx2.to hb1
  replace hx3 := hx3.to hb1
  replace HW := Lib.hid (hstep HW hb1)
  clear hb1
  go_wp2_with fail
  go_ret
  exact ⟨rfl, HW.out⟩

set_option maxHeartbeats 4000000 in
theorem same_0 (x y : Cx) (A1 A2 A3 B1 B2 B3 : Option Addr) (w : World) (hx : Num3 w A1 A2 A3 x) (hy : Num3 w B1 B2 B3 y) (hsx : sz 137438953472 x) (hsy : sz 137438953472 y) (h1 : na x ≠ na y) :
    Calls Tryz.prog 48 #[.agg #[.bool (sn (na x)), .slice A1 (ln (ab (na x))) (ln (ab (na x))), .bool (sn (nb x)), .slice A2 (ln (ab (nb x))) (ln (ab (nb x))), .slice A3 (ln (un x)) (ln (un x))], .agg #[.bool (sn (na y)), .slice B1 (ln (ab (na y))) (ln (ab (na y))), .bool (sn (nb y)), .slice B2 (ln (ab (nb y))) (ln (ab (nb y))), .slice B3 (ln (un y)) (ln (un y))]] w (RetBool w false) := by
  obtain ⟨hx1, hx2, hx3⟩ := hx
  have HSX := Lib.hid hsx
  clear hsx
  obtain ⟨hy1, hy2, hy3⟩ := hy
  have HSY := Lib.hid hsy
  clear hsy
  have t1 := cmpZ_ne h1
  clear h1
  go_enter Tryz.func48, Tryz.ntmps48
  go_wp2_with fail
  obtain ⟨W, hW⟩ : ∃ W : World, W = ((w.alloc (.cells #[.bool (sn (na x)), .slice A1 (ln (ab (na x))) (ln (ab (na x))), .bool (sn (nb x)), .slice A2 (ln (ab (nb x))) (ln (ab (nb x))), .slice A3 (ln (un x)) (ln (un x))] 30)).alloc (.cells #[.bool (sn (na y)), .slice B1 (ln (ab (na y))) (ln (ab (na y))), .bool (sn (nb y)), .slice B2 (ln (ab (nb y))) (ln (ab (nb y))), .slice B3 (ln (un y)) (ln (un y))] 30)) := ⟨_, rfl⟩
  have s0_0 : W.cell? ⟨w.heap.size, 0, none⟩ = some (.bool (sn (na x))) := by subst hW; go_simp
  have s0_1 : W.cell? ⟨w.heap.size, 1, none⟩ = some (.slice A1 (ln (ab (na x))) (ln (ab (na x)))) := by subst hW; go_simp
  have s0_2 : W.cell? ⟨w.heap.size, 2, none⟩ = some (.bool (sn (nb x))) := by subst hW; go_simp
  have s0_3 : W.cell? ⟨w.heap.size, 3, none⟩ = some (.slice A2 (ln (ab (nb x))) (ln (ab (nb x)))) := by subst hW; go_simp
  have s0_4 : W.cell? ⟨w.heap.size, 4, none⟩ = some (.slice A3 (ln (un x)) (ln (un x))) := by subst hW; go_simp
  have s1_0 : W.cell? ⟨w.heap.size + 1, 0, none⟩ = some (.bool (sn (na y))) := by subst hW; go_simp
  have s1_1 : W.cell? ⟨w.heap.size + 1, 1, none⟩ = some (.slice B1 (ln (ab (na y))) (ln (ab (na y)))) := by subst hW; go_simp
  have s1_2 : W.cell? ⟨w.heap.size + 1, 2, none⟩ = some (.bool (sn (nb y))) := by subst hW; go_simp
  have s1_3 : W.cell? ⟨w.heap.size + 1, 3, none⟩ = some (.slice B2 (ln (ab (nb y))) (ln (ab (nb y)))) := by subst hW; go_simp
  have s1_4 : W.cell? ⟨w.heap.size + 1, 4, none⟩ = some (.slice B3 (ln (un y)) (ln (un y))) := by subst hW; go_simp
  have HW : Below w.heap.size w W := by subst hW; exact (((Below.refl w.heap.size w).alloc (Nat.le_refl _) _).alloc (by simp) _)
  have l0 : w.heap.size < W.heap.size := by subst hW; simp <;> omega
  have l1 : w.heap.size + 1 < W.heap.size := by subst hW; simp
  replace hx1 := hx1.to HW
  replace hx2 := hx2.to HW
  replace hx3 := hx3.to HW
  replace hy1 := hy1.to HW
  replace hy2 := hy2.to HW
  replace hy3 := hy3.to HW
  rw [← hW]
  clear hW
  replace HW := Lib.hid HW
  refine (wcmp_any (na x) (na y) A1 B1 _ (by exact hx1) (by exact hy1) (by have := HSX.out; unfold sz at this; omega) (by have := HSY.out; unfold sz at this; omega)).mono ?_
  rintro e w1 ⟨rfl, hb1⟩
  replace s0_0 := keepc hb1 s0_0 l0
  replace s0_1 := keepc hb1 s0_1 l0
  replace s0_2 := keepc hb1 s0_2 l0
  replace s0_3 := keepc hb1 s0_3 l0
  replace s0_4 := keepc hb1 s0_4 l0
  replace s1_0 := keepc hb1 s1_0 l1
  replace s1_1 := keepc hb1 s1_1 l1
  replace s1_2 := keepc hb1 s1_2 l1
  replace s1_3 := keepc hb1 s1_3 l1
  replace s1_4 := keepc hb1 s1_4 l1
  replace l0 := Nat.lt_of_lt_of_le l0 hb1.size
  replace l1 := Nat.lt_of_lt_of_le l1 hb1.size
  replace hx1 := hx1.to hb1
  replace hx2 := hx2.to hb1
  replace hx3 := hx3.to hb1
  replace hy1 := hy1.to hb1
  replace hy2 := hy2.to hb1
  replace hy3 := hy3.to hb1
  replace HW := Lib.hid (hstep HW hb1)
  clear hb1
  go_wp2_with fail
  go_ret
  exact ⟨rfl, HW.out⟩

set_option maxHeartbeats 4000000 in
theorem same_1 (x y : Cx) (A1 A2 A3 B1 B2 B3 : Option Addr) (w : World) (hx : Num3 w A1 A2 A3 x) (hy : Num3 w B1 B2 B3 y) (hsx : sz 137438953472 x) (hsy : sz 137438953472 y) (h1 : na x = na y) (h2 : nb x ≠ nb y) :
    Calls Tryz.prog 48 #[.agg #[.bool (sn (na x)), .slice A1 (ln (ab (na x))) (ln (ab (na x))), .bool (sn (nb x)), .slice A2 (ln (ab (nb x))) (ln (ab (nb x))), .slice A3 (ln (un x)) (ln (un x))], .agg #[.bool (sn (na y)), .slice B1 (ln (ab (na y))) (ln (ab (na y))), .bool (sn (nb y)), .slice B2 (ln (ab (nb y))) (ln (ab (nb y))), .slice B3 (ln (un y)) (ln (un y))]] w (RetBool w false) := by
  obtain ⟨hx1, hx2, hx3⟩ := hx
  have HSX := Lib.hid hsx
  clear hsx
  obtain ⟨hy1, hy2, hy3⟩ := hy
  have HSY := Lib.hid hsy
  clear hsy
  have t1 := cmpZ_eq h1
  have t2 := cmpZ_ne h2
  clear h1 h2
  go_enter Tryz.func48, Tryz.ntmps48
  go_wp2_with fail
  obtain ⟨W, hW⟩ : ∃ W : World, W = ((w.alloc (.cells #[.bool (sn (na x)), .slice A1 (ln (ab (na x))) (ln (ab (na x))), .bool (sn (nb x)), .slice A2 (ln (ab (nb x))) (ln (ab (nb x))), .slice A3 (ln (un x)) (ln (un x))] 30)).alloc (.cells #[.bool (sn (na y)), .slice B1 (ln (ab (na y))) (ln (ab (na y))), .bool (sn (nb y)), .slice B2 (ln (ab (nb y))) (ln (ab (nb y))), .slice B3 (ln (un y)) (ln (un y))] 30)) := ⟨_, rfl⟩
  have s0_0 : W.cell? ⟨w.heap.size, 0, none⟩ = some (.bool (sn (na x))) := by subst hW; go_simp
  have s0_1 : W.cell? ⟨w.heap.size, 1, none⟩ = some (.slice A1 (ln (ab (na x))) (ln (ab (na x)))) := by subst hW; go_simp
  have s0_2 : W.cell? ⟨w.heap.size, 2, none⟩ = some (.bool (sn (nb x))) := by subst hW; go_simp
  have s0_3 : W.cell? ⟨w.heap.size, 3, none⟩ = some (.slice A2 (ln (ab (nb x))) (ln (ab (nb x)))) := by subst hW; go_simp
  have s0_4 : W.cell? ⟨w.heap.size, 4, none⟩ = some (.slice A3 (ln (un x)) (ln (un x))) := by subst hW; go_simp
  have s1_0 : W.cell? ⟨w.heap.size + 1, 0, none⟩ = some (.bool (sn (na y))) := by subst hW; go_simp
  have s1_1 : W.cell? ⟨w.heap.size + 1, 1, none⟩ = some (.slice B1 (ln (ab (na y))) (ln (ab (na y)))) := by subst hW; go_simp
  have s1_2 : W.cell? ⟨w.heap.size + 1, 2, none⟩ = some (.bool (sn (nb y))) := by subst hW; go_simp
  have s1_3 : W.cell? ⟨w.heap.size + 1, 3, none⟩ = some (.slice B2 (ln (ab (nb y))) (ln (ab (nb y)))) := by subst hW; go_simp
  have s1_4 : W.cell? ⟨w.heap.size + 1, 4, none⟩ = some (.slice B3 (ln (un y)) (ln (un y))) := by subst hW; go_simp
  have HW : Below w.heap.size w W := by subst hW; exact (((Below.refl w.heap.size w).alloc (Nat.le_refl _) _).alloc (by simp) _)
  have l0 : w.heap.size < W.heap.size := by subst hW; simp <;> omega
  have l1 : w.heap.size + 1 < W.heap.size := by subst hW; simp
  replace hx1 := hx1.to HW
  replace hx2 := hx2.to HW
  replace hx3 := hx3.to HW
  replace hy1 := hy1.to HW
  replace hy2 := hy2.to HW
  replace hy3 := hy3.to HW
  rw [← hW]
  clear hW
  replace HW := Lib.hid HW
  refine (wcmp_any (na x) (na y) A1 B1 _ (by exact hx1) (by exact hy1) (by have := HSX.out; unfold sz at this; omega) (by have := HSY.out; unfold sz at this; omega)).mono ?_
  rintro e w1 ⟨rfl, hb1⟩
  replace s0_0 := keepc hb1 s0_0 l0
  replace s0_1 := keepc hb1 s0_1 l0
  replace s0_2 := keepc hb1 s0_2 l0
  replace s0_3 := keepc hb1 s0_3 l0
  replace s0_4 := keepc hb1 s0_4 l0
  replace s1_0 := keepc hb1 s1_0 l1
  replace s1_1 := keepc hb1 s1_1 l1
  replace s1_2 := keepc hb1 s1_2 l1
  replace s1_3 := keepc hb1 s1_3 l1
  replace s1_4 := keepc hb1 s1_4 l1
  replace l0 := Nat.lt_of_lt_of_le l0 hb1.size
  replace l1 := Nat.lt_of_lt_of_le l1 hb1.size
  replace hx1 := hx1.to hb1
  replace hx2 := hx2.to hb1
  replace hx3 := hx3.to hb1
  replace hy1 := hy1.to hb1
  replace hy2 := hy2.to hb1
  replace hy3 := hy3.to hb1
  replace HW := Lib.hid (hstep HW hb1)
  clear hb1
  go_wp2_with fail
  refine (wcmp_any (nb x) (nb y) A2 B2 _ (by exact hx2) (by exact hy2) (by have := HSX.out; unfold sz at this; omega) (by have := HSY.out; unfold sz at this; omega)).mono ?_
  rintro e w2 ⟨rfl, hb2⟩
  replace s0_0 := keepc hb2 s0_0 l0
  replace s0_1 := keepc hb2 s0_1 l0
  replace s0_2 := keepc hb2 s0_2 l0
  replace s0_3 := keepc hb2 s0_3 l0
  replace s0_4 := keepc hb2 s0_4 l0
  replace s1_0 := keepc hb2 s1_0 l1
  replace s1_1 := keepc hb2 s1_1 l1
  replace s1_2 := keepc hb2 s1_2 l1
  replace s1_3 := keepc hb2 s1_3 l1
  replace s1_4 := keepc hb2 s1_4 l1
  replace l0 := Nat.lt_of_lt_of_le l0 hb2.size
  replace l1 := Nat.lt_of_lt_of_le l1 hb2.size
  replace hx1 := hx1.to hb2
  replace hx2 := hx2.to hb2
  replace hx3 := hx3.to hb2
  replace hy1 := hy1.to hb2
  replace hy2 := hy2.to hb2
  replace hy3 := hy3.to hb2
  replace HW := Lib.hid (hstep HW hb2)
  clear hb2
  go_wp2_with fail
  go_ret
  exact ⟨rfl, HW.out⟩

set_option maxHeartbeats 4000000 in
theorem same_2 (x y : Cx) (A1 A2 A3 B1 B2 B3 : Option Addr) (w : World) (hx : Num3 w A1 A2 A3 x) (hy : Num3 w B1 B2 B3 y) (hsx : sz 137438953472 x) (hsy : sz 137438953472 y) (h1 : na x = na y) (h2 : nb x = nb y) (h3 : un x ≠ un y) :
    Calls Tryz.prog 48 #[.agg #[.bool (sn (na x)), .slice A1 (ln (ab (na x))) (ln (ab (na x))), .bool (sn (nb x)), .slice A2 (ln (ab (nb x))) (ln (ab (nb x))), .slice A3 (ln (un x)) (ln (un x))], .agg #[.bool (sn (na y)), .slice B1 (ln (ab (na y))) (ln (ab (na y))), .bool (sn (nb y)), .slice B2 (ln (ab (nb y))) (ln (ab (nb y))), .slice B3 (ln (un y)) (ln (un y))]] w (RetBool w false) := by
  obtain ⟨hx1, hx2, hx3⟩ := hx
  have HSX := Lib.hid hsx
  clear hsx
  obtain ⟨hy1, hy2, hy3⟩ := hy
  have HSY := Lib.hid hsy
  clear hsy
  have t1 := cmpZ_eq h1
  have t2 := cmpZ_eq h2
  have t3 := cmpN_ne h3
  clear h1 h2 h3
  go_enter Tryz.func48, Tryz.ntmps48
  go_wp2_with fail
  obtain ⟨W, hW⟩ : ∃ W : World, W = ((w.alloc (.cells #[.bool (sn (na x)), .slice A1 (ln (ab (na x))) (ln (ab (na x))), .bool (sn (nb x)), .slice A2 (ln (ab (nb x))) (ln (ab (nb x))), .slice A3 (ln (un x)) (ln (un x))] 30)).alloc (.cells #[.bool (sn (na y)), .slice B1 (ln (ab (na y))) (ln (ab (na y))), .bool (sn (nb y)), .slice B2 (ln (ab (nb y))) (ln (ab (nb y))), .slice B3 (ln (un y)) (ln (un y))] 30)) := ⟨_, rfl⟩
  have s0_0 : W.cell? ⟨w.heap.size, 0, none⟩ = some (.bool (sn (na x))) := by subst hW; go_simp
  have s0_1 : W.cell? ⟨w.heap.size, 1, none⟩ = some (.slice A1 (ln (ab (na x))) (ln (ab (na x)))) := by subst hW; go_simp
  have s0_2 : W.cell? ⟨w.heap.size, 2, none⟩ = some (.bool (sn (nb x))) := by subst hW; go_simp
  have s0_3 : W.cell? ⟨w.heap.size, 3, none⟩ = some (.slice A2 (ln (ab (nb x))) (ln (ab (nb x)))) := by subst hW; go_simp
  have s0_4 : W.cell? ⟨w.heap.size, 4, none⟩ = some (.slice A3 (ln (un x)) (ln (un x))) := by subst hW; go_simp
  have s1_0 : W.cell? ⟨w.heap.size + 1, 0, none⟩ = some (.bool (sn (na y))) := by subst hW; go_simp
  have s1_1 : W.cell? ⟨w.heap.size + 1, 1, none⟩ = some (.slice B1 (ln (ab (na y))) (ln (ab (na y)))) := by subst hW; go_simp
  have s1_2 : W.cell? ⟨w.heap.size + 1, 2, none⟩ = some (.bool (sn (nb y))) := by subst hW; go_simp
  have s1_3 : W.cell? ⟨w.heap.size + 1, 3, none⟩ = some (.slice B2 (ln (ab (nb y))) (ln (ab (nb y)))) := by subst hW; go_simp
  have s1_4 : W.cell? ⟨w.heap.size + 1, 4, none⟩ = some (.slice B3 (ln (un y)) (ln (un y))) := by subst hW; go_simp
  have HW : Below w.heap.size w W := by subst hW; exact (((Below.refl w.heap.size w).alloc (Nat.le_refl _) _).alloc (by simp) _)
  have l0 : w.heap.size < W.heap.size := by subst hW; simp <;> omega
  have l1 : w.heap.size + 1 < W.heap.size := by subst hW; simp
  replace hx1 := hx1.to HW
  replace hx2 := hx2.to HW
  replace hx3 := hx3.to HW
  replace hy1 := hy1.to HW
  replace hy2 := hy2.to HW
  replace hy3 := hy3.to HW
  rw [← hW]
  clear hW
  replace HW := Lib.hid HW
  refine (wcmp_any (na x) (na y) A1 B1 _ (by exact hx1) (by exact hy1) (by have := HSX.out; unfold sz at this; omega) (by have := HSY.out; unfold sz at this; omega)).mono ?_
  rintro e w1 ⟨rfl, hb1⟩
  replace s0_0 := keepc hb1 s0_0 l0
  replace s0_1 := keepc hb1 s0_1 l0
  replace s0_2 := keepc hb1 s0_2 l0
  replace s0_3 := keepc hb1 s0_3 l0
  replace s0_4 := keepc hb1 s0_4 l0
  replace s1_0 := keepc hb1 s1_0 l1
  replace s1_1 := keepc hb1 s1_1 l1
  replace s1_2 := keepc hb1 s1_2 l1
  replace s1_3 := keepc hb1 s1_3 l1
  replace s1_4 := keepc hb1 s1_4 l1
  replace l0 := Nat.lt_of_lt_of_le l0 hb1.size
  replace l1 := Nat.lt_of_lt_of_le l1 hb1.size
  replace hx1 := hx1.to hb1
  replace hx2 := hx2.to hb1
  replace hx3 := hx3.to hb1
  replace hy1 := hy1.to hb1
  replace hy2 := hy2.to hb1
  replace hy3 := hy3.to hb1
  replace HW := Lib.hid (hstep HW hb1)
  clear hb1
  go_wp2_with fail
  refine (wcmp_any (nb x) (nb y) A2 B2 _ (by exact hx2) (by exact hy2) (by have := HSX.out; unfold sz at this; omega) (by have := HSY.out; unfold sz at this; omega)).mono ?_
  rintro e w2 ⟨rfl, hb2⟩
  replace s0_0 := keepc hb2 s0_0 l0
  replace s0_1 := keepc hb2 s0_1 l0
  replace s0_2 := keepc hb2 s0_2 l0
  replace s0_3 := keepc hb2 s0_3 l0
  replace s0_4 := keepc hb2 s0_4 l0
  replace s1_0 := keepc hb2 s1_0 l1
  replace s1_1 := keepc hb2 s1_1 l1
  replace s1_2 := keepc hb2 s1_2 l1
  replace s1_3 := keepc hb2 s1_3 l1
  replace s1_4 := keepc hb2 s1_4 l1
  replace l0 := Nat.lt_of_lt_of_le l0 hb2.size
  replace l1 := Nat.lt_of_lt_of_le l1 hb2.size
  replace hx1 := hx1.to hb2
  replace hx2 := hx2.to hb2
  replace hx3 := hx3.to hb2
  replace hy1 := hy1.to hb2
  replace hy2 := hy2.to hb2
  replace hy3 := hy3.to hb2
  replace HW := Lib.hid (hstep HW hb2)
  clear hb2
  go_wp2_with fail
  refine (cmp_any (un x) (un y) A3 B3 _ (by exact hx3) (by exact hy3) (by have := HSX.out.2.2; have := un_ln x; omega)).mono ?_
  rintro e w3 ⟨rfl, hb3⟩
  replace s0_0 := keepc hb3 s0_0 l0
  replace s0_1 := keepc hb3 s0_1 l0
  replace s0_2 := keepc hb3 s0_2 l0
  replace s0_3 := keepc hb3 s0_3 l0
  replace s0_4 := keepc hb3 s0_4 l0
  replace s1_0 := keepc hb3 s1_0 l1
  replace s1_1 := keepc hb3 s1_1 l1
  replace s1_2 := keepc hb3 s1_2 l1
  replace s1_3 := keepc hb3 s1_3 l1
  replace s1_4 := keepc hb3 s1_4 l1
  replace l0 := Nat.lt_of_lt_of_le l0 hb3.size
  replace l1 := Nat.lt_of_lt_of_le l1 hb3.size
  replace hx1 := hx1.to hb3
  replace hx2 := hx2.to hb3
  replace hx3 := hx3.to hb3
  replace hy1 := hy1.to hb3
  replace hy2 := hy2.to hb3
  replace hy3 := hy3.to hb3
  replace HW := Lib.hid (hstep HW hb3)
  clear hb3
  go_wp2_with fail
  go_ret
  exact ⟨rfl, HW.out⟩

set_option maxHeartbeats 4000000 in
theorem same_3 (x y : Cx) (A1 A2 A3 B1 B2 B3 : Option Addr) (w : World) (hx : Num3 w A1 A2 A3 x) (hy : Num3 w B1 B2 B3 y) (hsx : sz 137438953472 x) (hsy : sz 137438953472 y) (h1 : na x = na y) (h2 : nb x = nb y) (h3 : un x = un y) :
    Calls Tryz.prog 48 #[.agg #[.bool (sn (na x)), .slice A1 (ln (ab (na x))) (ln (ab (na x))), .bool (sn (nb x)), .slice A2 (ln (ab (nb x))) (ln (ab (nb x))), .slice A3 (ln (un x)) (ln (un x))], .agg #[.bool (sn (na y)), .slice B1 (ln (ab (na y))) (ln (ab (na y))), .bool (sn (nb y)), .slice B2 (ln (ab (nb y))) (ln (ab (nb y))), .slice B3 (ln (un y)) (ln (un y))]] w (RetBool w true) := by
  obtain ⟨hx1, hx2, hx3⟩ := hx
  have HSX := Lib.hid hsx
  clear hsx
  obtain ⟨hy1, hy2, hy3⟩ := hy
  have HSY := Lib.hid hsy
  clear hsy
  have t1 := cmpZ_eq h1
  have t2 := cmpZ_eq h2
  have t3 := cmpN_eq h3
  clear h1 h2 h3
  go_enter Tryz.func48, Tryz.ntmps48
  go_wp2_with fail
  obtain ⟨W, hW⟩ : ∃ W : World, W = ((w.alloc (.cells #[.bool (sn (na x)), .slice A1 (ln (ab (na x))) (ln (ab (na x))), .bool (sn (nb x)), .slice A2 (ln (ab (nb x))) (ln (ab (nb x))), .slice A3 (ln (un x)) (ln (un x))] 30)).alloc (.cells #[.bool (sn (na y)), .slice B1 (ln (ab (na y))) (ln (ab (na y))), .bool (sn (nb y)), .slice B2 (ln (ab (nb y))) (ln (ab (nb y))), .slice B3 (ln (un y)) (ln (un y))] 30)) := ⟨_, rfl⟩
  have s0_0 : W.cell? ⟨w.heap.size, 0, none⟩ = some (.bool (sn (na x))) := by subst hW; go_simp
  have s0_1 : W.cell? ⟨w.heap.size, 1, none⟩ = some (.slice A1 (ln (ab (na x))) (ln (ab (na x)))) := by subst hW; go_simp
  have s0_2 : W.cell? ⟨w.heap.size, 2, none⟩ = some (.bool (sn (nb x))) := by subst hW; go_simp
  have s0_3 : W.cell? ⟨w.heap.size, 3, none⟩ = some (.slice A2 (ln (ab (nb x))) (ln (ab (nb x)))) := by subst hW; go_simp
  have s0_4 : W.cell? ⟨w.heap.size, 4, none⟩ = some (.slice A3 (ln (un x)) (ln (un x))) := by subst hW; go_simp
  have s1_0 : W.cell? ⟨w.heap.size + 1, 0, none⟩ = some (.bool (sn (na y))) := by subst hW; go_simp
  have s1_1 : W.cell? ⟨w.heap.size + 1, 1, none⟩ = some (.slice B1 (ln (ab (na y))) (ln (ab (na y)))) := by subst hW; go_simp
  have s1_2 : W.cell? ⟨w.heap.size + 1, 2, none⟩ = some (.bool (sn (nb y))) := by subst hW; go_simp
  have s1_3 : W.cell? ⟨w.heap.size + 1, 3, none⟩ = some (.slice B2 (ln (ab (nb y))) (ln (ab (nb y)))) := by subst hW; go_simp
  have s1_4 : W.cell? ⟨w.heap.size + 1, 4, none⟩ = some (.slice B3 (ln (un y)) (ln (un y))) := by subst hW; go_simp
  have HW : Below w.heap.size w W := by subst hW; exact (((Below.refl w.heap.size w).alloc (Nat.le_refl _) _).alloc (by simp) _)
  have l0 : w.heap.size < W.heap.size := by subst hW; simp <;> omega
  have l1 : w.heap.size + 1 < W.heap.size := by subst hW; simp
  replace hx1 := hx1.to HW
  replace hx2 := hx2.to HW
  replace hx3 := hx3.to HW
  replace hy1 := hy1.to HW
  replace hy2 := hy2.to HW
  replace hy3 := hy3.to HW
  rw [← hW]
  clear hW
  replace HW := Lib.hid HW
  refine (wcmp_any (na x) (na y) A1 B1 _ (by exact hx1) (by exact hy1) (by have := HSX.out; unfold sz at this; omega) (by have := HSY.out; unfold sz at this; omega)).mono ?_
  rintro e w1 ⟨rfl, hb1⟩
  replace s0_0 := keepc hb1 s0_0 l0
  replace s0_1 := keepc hb1 s0_1 l0
  replace s0_2 := keepc hb1 s0_2 l0
  replace s0_3 := keepc hb1 s0_3 l0
  replace s0_4 := keepc hb1 s0_4 l0
  replace s1_0 := keepc hb1 s1_0 l1
  replace s1_1 := keepc hb1 s1_1 l1
  replace s1_2 := keepc hb1 s1_2 l1
  replace s1_3 := keepc hb1 s1_3 l1
  replace s1_4 := keepc hb1 s1_4 l1
  replace l0 := Nat.lt_of_lt_of_le l0 hb1.size
  replace l1 := Nat.lt_of_lt_of_le l1 hb1.size
  replace hx1 := hx1.to hb1
  replace hx2 := hx2.to hb1
  replace hx3 := hx3.to hb1
  replace hy1 := hy1.to hb1
  replace hy2 := hy2.to hb1
  replace hy3 := hy3.to hb1
  replace HW := Lib.hid (hstep HW hb1)
  clear hb1
  go_wp2_with fail
  refine (wcmp_any (nb x) (nb y) A2 B2 _ (by exact hx2) (by exact hy2) (by have := HSX.out; unfold sz at this; omega) (by have := HSY.out; unfold sz at this; omega)).mono ?_
  rintro e w2 ⟨rfl, hb2⟩
  replace s0_0 := keepc hb2 s0_0 l0
  replace s0_1 := keepc hb2 s0_1 l0
  replace s0_2 := keepc hb2 s0_2 l0
  replace s0_3 := keepc hb2 s0_3 l0
  replace s0_4 := keepc hb2 s0_4 l0
  replace s1_0 := keepc hb2 s1_0 l1
  replace s1_1 := keepc hb2 s1_1 l1
  replace s1_2 := keepc hb2 s1_2 l1
  replace s1_3 := keepc hb2 s1_3 l1
  replace s1_4 := keepc hb2 s1_4 l1
  replace l0 := Nat.lt_of_lt_of_le l0 hb2.size
  replace l1 := Nat.lt_of_lt_of_le l1 hb2.size
  replace hx1 := hx1.to hb2
  replace hx2 := hx2.to hb2
  replace hx3 := hx3.to hb2
  replace hy1 := hy1.to hb2
  replace hy2 := hy2.to hb2
  replace hy3 := hy3.to hb2
  replace HW := Lib.hid (hstep HW hb2)
  clear hb2
  go_wp2_with fail
  refine (cmp_any (un x) (un y) A3 B3 _ (by exact hx3) (by exact hy3) (by have := HSX.out.2.2; have := un_ln x; omega)).mono ?_
  rintro e w3 ⟨rfl, hb3⟩
  replace s0_0 := keepc hb3 s0_0 l0
  replace s0_1 := keepc hb3 s0_1 l0
  replace s0_2 := keepc hb3 s0_2 l0
  replace s0_3 := keepc hb3 s0_3 l0
  replace s0_4 := keepc hb3 s0_4 l0
  replace s1_0 := keepc hb3 s1_0 l1
  replace s1_1 := keepc hb3 s1_1 l1
  replace s1_2 := keepc hb3 s1_2 l1
  replace s1_3 := keepc hb3 s1_3 l1
  replace s1_4 := keepc hb3 s1_4 l1
  replace l0 := Nat.lt_of_lt_of_le l0 hb3.size
  replace l1 := Nat.lt_of_lt_of_le l1 hb3.size
  replace hx1 := hx1.to hb3
  replace hx2 := hx2.to hb3
  replace hx3 := hx3.to hb3
  replace hy1 := hy1.to hb3
  replace hy2 := hy2.to hb3
  replace hy3 := hy3.to hb3
  replace HW := Lib.hid (hstep HW hb3)
  clear hb3
  go_wp2_with fail
  go_ret
  exact ⟨rfl, HW.out⟩

/-- 'x.Same(y)'. -/
theorem same_any (x y : Cx) (A1 A2 A3 B1 B2 B3 : Option Addr) (w : World) (hx : Num3 w A1 A2 A3 x) (hy : Num3 w B1 B2 B3 y) (hsx : sz 137438953472 x) (hsy : sz 137438953472 y) :
    Calls Tryz.prog 48 #[.agg #[.bool (sn (na x)), .slice A1 (ln (ab (na x))) (ln (ab (na x))), .bool (sn (nb x)), .slice A2 (ln (ab (nb x))) (ln (ab (nb x))), .slice A3 (ln (un x)) (ln (un x))], .agg #[.bool (sn (na y)), .slice B1 (ln (ab (na y))) (ln (ab (na y))), .bool (sn (nb y)), .slice B2 (ln (ab (nb y))) (ln (ab (nb y))), .slice B3 (ln (un y)) (ln (un y))]] w (RetBool w (decide (x = y))) := by
  by_cases h1 : na x = na y
  · by_cases h2 : nb x = nb y
    · by_cases h3 : un x = un y
      · rw [decide_eq_true (cx_inj h1 h2 (un_inj.1 h3))]; exact same_3 x y A1 A2 A3 B1 B2 B3 w hx hy hsx hsy h1 h2 h3
      · rw [decide_eq_false (fun e => h3 (by rw [e]))]; exact same_2 x y A1 A2 A3 B1 B2 B3 w hx hy hsx hsy h1 h2 h3
    · rw [decide_eq_false (fun e => h2 (by rw [e]))]; exact same_1 x y A1 A2 A3 B1 B2 B3 w hx hy hsx hsy h1 h2
  · rw [decide_eq_false (fun e => h1 (by rw [e]))]; exact same_0 x y A1 A2 A3 B1 B2 B3 w hx hy hsx hsy h1

set_option maxHeartbeats 4000000 in
theorem cmpn_re (x y : Cx) (A1 A2 A3 B1 B2 B3 : Option Addr) (w : World) (hx : Num3 w A1 A2 A3 x) (hy : Num3 w B1 B2 B3 y) (hsx : sz 137438953472 x) (hsy : sz 137438953472 y) (h : na x * (nd y : Int) ≠ na y * (nd x : Int)) :
    Calls Tryz.prog 50 #[.agg #[.bool (sn (na x)), .slice A1 (ln (ab (na x))) (ln (ab (na x))), .bool (sn (nb x)), .slice A2 (ln (ab (nb x))) (ln (ab (nb x))), .slice A3 (ln (un x)) (ln (un x))], .agg #[.bool (sn (na y)), .slice B1 (ln (ab (na y))) (ln (ab (na y))), .bool (sn (nb y)), .slice B2 (ln (ab (nb y))) (ln (ab (nb y))), .slice B3 (ln (un y)) (ln (un y))]] w (RetInt w (cmpC x y)) := by
  obtain ⟨hx1, hx2, hx3⟩ := hx
  have HSX := Lib.hid hsx
  clear hsx
  obtain ⟨hy1, hy2, hy3⟩ := hy
  have HSY := Lib.hid hsy
  clear hsy
  have HC := Lib.hid (cmpC_re h).symm
  have t := cmpZ_ne' h
  clear h
  go_enter Tryz.func50, Tryz.ntmps50
  go_wp2_with fail
  obtain ⟨W, hW⟩ : ∃ W : World, W = ((w.alloc (.cells #[.bool (sn (na x)), .slice A1 (ln (ab (na x))) (ln (ab (na x))), .bool (sn (nb x)), .slice A2 (ln (ab (nb x))) (ln (ab (nb x))), .slice A3 (ln (un x)) (ln (un x))] 30)).alloc (.cells #[.bool (sn (na y)), .slice B1 (ln (ab (na y))) (ln (ab (na y))), .bool (sn (nb y)), .slice B2 (ln (ab (nb y))) (ln (ab (nb y))), .slice B3 (ln (un y)) (ln (un y))] 30)) := ⟨_, rfl⟩
  have s0_0 : W.cell? ⟨w.heap.size, 0, none⟩ = some (.bool (sn (na x))) := by subst hW; go_simp
  have s0_1 : W.cell? ⟨w.heap.size, 1, none⟩ = some (.slice A1 (ln (ab (na x))) (ln (ab (na x)))) := by subst hW; go_simp
  have s0_2 : W.cell? ⟨w.heap.size, 2, none⟩ = some (.bool (sn (nb x))) := by subst hW; go_simp
  have s0_3 : W.cell? ⟨w.heap.size, 3, none⟩ = some (.slice A2 (ln (ab (nb x))) (ln (ab (nb x)))) := by subst hW; go_simp
  have s0_4 : W.cell? ⟨w.heap.size, 4, none⟩ = some (.slice A3 (ln (un x)) (ln (un x))) := by subst hW; go_simp
  have s1_0 : W.cell? ⟨w.heap.size + 1, 0, none⟩ = some (.bool (sn (na y))) := by subst hW; go_simp
  have s1_1 : W.cell? ⟨w.heap.size + 1, 1, none⟩ = some (.slice B1 (ln (ab (na y))) (ln (ab (na y)))) := by subst hW; go_simp
  have s1_2 : W.cell? ⟨w.heap.size + 1, 2, none⟩ = some (.bool (sn (nb y))) := by subst hW; go_simp
  have s1_3 : W.cell? ⟨w.heap.size + 1, 3, none⟩ = some (.slice B2 (ln (ab (nb y))) (ln (ab (nb y)))) := by subst hW; go_simp
  have s1_4 : W.cell? ⟨w.heap.size + 1, 4, none⟩ = some (.slice B3 (ln (un y)) (ln (un y))) := by subst hW; go_simp
  have HW : Below w.heap.size w W := by subst hW; exact (((Below.refl w.heap.size w).alloc (Nat.le_refl _) _).alloc (by simp) _)
  have l0 : w.heap.size < W.heap.size := by subst hW; simp <;> omega
  have l1 : w.heap.size + 1 < W.heap.size := by subst hW; simp
  replace hx1 := hx1.to HW
  replace hx2 := hx2.to HW
  replace hx3 := hx3.to HW
  replace hy1 := hy1.to HW
  replace hy2 := hy2.to HW
  replace hy3 := hy3.to HW
  rw [← hW]
  clear hW
  replace HW := Lib.hid HW
  go_region_held3 (fun w' => w'.cell? ⟨w.heap.size, 0, none⟩ = some (.bool (sn (na x))) ∧ w'.cell? ⟨w.heap.size, 1, none⟩ = some (.slice A1 (ln (ab (na x))) (ln (ab (na x)))) ∧ w'.cell? ⟨w.heap.size, 2, none⟩ = some (.bool (sn (nb x))) ∧ w'.cell? ⟨w.heap.size, 3, none⟩ = some (.slice A2 (ln (ab (nb x))) (ln (ab (nb x)))) ∧ w'.cell? ⟨w.heap.size, 4, none⟩ = some (.slice A3 (ln (un x)) (ln (un x))) ∧ w'.cell? ⟨w.heap.size + 1, 0, none⟩ = some (.bool (sn (na y))) ∧ w'.cell? ⟨w.heap.size + 1, 1, none⟩ = some (.slice B1 (ln (ab (na y))) (ln (ab (na y)))) ∧ w'.cell? ⟨w.heap.size + 1, 2, none⟩ = some (.bool (sn (nb y))) ∧ w'.cell? ⟨w.heap.size + 1, 3, none⟩ = some (.slice B2 (ln (ab (nb y))) (ln (ab (nb y)))) ∧ w'.cell? ⟨w.heap.size + 1, 4, none⟩ = some (.slice B3 (ln (un y)) (ln (un y)))) (first | with_reducible exact ⟨s0_0, s0_1, s0_2, s0_3, s0_4, s1_0, s1_1, s1_2, s1_3, s1_4⟩ | with_reducible exact ⟨s0_0, s0_1, s0_2, s0_3, s0_4, s1_0, s1_1, s1_2, s1_3, s1_4⟩ | exact ⟨s0_0, s0_1, s0_2, s0_3, s0_4, s1_0, s1_1, s1_2, s1_3, s1_4⟩) (first
    | (go_at_call_of 89 (Value.agg #[.bool (sn (na y)), .slice B1 (ln (ab (na y))) (ln (ab (na y))), .bool (sn (nb y)), .slice B2 (ln (ab (nb y))) (ln (ab (nb y))), .slice B3 (ln (un y)) (ln (un y))]); refine (den_any y B1 B2 B3 _ (by exact num3_mk hy1 hy2 hy3)).mono ?_; rintro e w1 ⟨D1, rfl, h1, hb1⟩; have hb1 := undrew hb1; replace s0_0 := keepc hb1 s0_0 l0; replace s0_1 := keepc hb1 s0_1 l0; replace s0_2 := keepc hb1 s0_2 l0; replace s0_3 := keepc hb1 s0_3 l0; replace s0_4 := keepc hb1 s0_4 l0; replace s1_0 := keepc hb1 s1_0 l1; replace s1_1 := keepc hb1 s1_1 l1; replace s1_2 := keepc hb1 s1_2 l1; replace s1_3 := keepc hb1 s1_3 l1; replace s1_4 := keepc hb1 s1_4 l1; replace l0 := Nat.lt_of_lt_of_le l0 hb1.size; replace l1 := Nat.lt_of_lt_of_le l1 hb1.size; replace hx1 := hx1.to hb1; replace hx2 := hx2.to hb1; replace hx3 := hx3.to hb1; replace hy1 := hy1.to hb1; replace hy2 := hy2.to hb1; replace hy3 := hy3.to hb1; replace HW := Lib.hid (hstep HW hb1); clear hb1)
    | (go_at_call_of 97 (Value.slice A1 (ln (ab (na x))) (ln (ab (na x)))); refine (scaled_any (na x) (nd y) A1 D1 _ (by exact hx1) (by exact h1) (by have := HSX.out; unfold sz at this; omega) (by have := HSY.out; unfold sz at this; omega)).mono ?_; rintro e w2 ⟨S2, rfl, h2, hb2⟩; replace s0_0 := keepc hb2 s0_0 l0; replace s0_1 := keepc hb2 s0_1 l0; replace s0_2 := keepc hb2 s0_2 l0; replace s0_3 := keepc hb2 s0_3 l0; replace s0_4 := keepc hb2 s0_4 l0; replace s1_0 := keepc hb2 s1_0 l1; replace s1_1 := keepc hb2 s1_1 l1; replace s1_2 := keepc hb2 s1_2 l1; replace s1_3 := keepc hb2 s1_3 l1; replace s1_4 := keepc hb2 s1_4 l1; replace l0 := Nat.lt_of_lt_of_le l0 hb2.size; replace l1 := Nat.lt_of_lt_of_le l1 hb2.size; replace hx1 := hx1.to hb2; replace hx2 := hx2.to hb2; replace hx3 := hx3.to hb2; replace hy1 := hy1.to hb2; replace hy2 := hy2.to hb2; replace hy3 := hy3.to hb2; replace h1 := h1.to hb2; replace HW := Lib.hid (hstep HW hb2); clear hb2)
    | (go_at_call_of 89 (Value.agg #[.bool (sn (na x)), .slice A1 (ln (ab (na x))) (ln (ab (na x))), .bool (sn (nb x)), .slice A2 (ln (ab (nb x))) (ln (ab (nb x))), .slice A3 (ln (un x)) (ln (un x))]); refine (den_any x A1 A2 A3 _ (by exact num3_mk hx1 hx2 hx3)).mono ?_; rintro e w3 ⟨D3, rfl, h3, hb3⟩; replace s0_0 := keepc hb3 s0_0 l0; replace s0_1 := keepc hb3 s0_1 l0; replace s0_2 := keepc hb3 s0_2 l0; replace s0_3 := keepc hb3 s0_3 l0; replace s0_4 := keepc hb3 s0_4 l0; replace s1_0 := keepc hb3 s1_0 l1; replace s1_1 := keepc hb3 s1_1 l1; replace s1_2 := keepc hb3 s1_2 l1; replace s1_3 := keepc hb3 s1_3 l1; replace s1_4 := keepc hb3 s1_4 l1; replace l0 := Nat.lt_of_lt_of_le l0 hb3.size; replace l1 := Nat.lt_of_lt_of_le l1 hb3.size; replace hx1 := hx1.to hb3; replace hx2 := hx2.to hb3; replace hx3 := hx3.to hb3; replace hy1 := hy1.to hb3; replace hy2 := hy2.to hb3; replace hy3 := hy3.to hb3; replace h1 := h1.to hb3; replace h2 := h2.to hb3; replace HW := Lib.hid (hstep HW hb3); clear hb3)
    | (go_at_call_of 97 (Value.slice B1 (ln (ab (na y))) (ln (ab (na y)))); refine (scaled_any (na y) (nd x) B1 D3 _ (by exact hy1) (by exact h3) (by have := HSY.out; unfold sz at this; omega) (by have := HSX.out; unfold sz at this; omega)).mono ?_; rintro e w4 ⟨S4, rfl, h4, hb4⟩; replace s0_0 := keepc hb4 s0_0 l0; replace s0_1 := keepc hb4 s0_1 l0; replace s0_2 := keepc hb4 s0_2 l0; replace s0_3 := keepc hb4 s0_3 l0; replace s0_4 := keepc hb4 s0_4 l0; replace s1_0 := keepc hb4 s1_0 l1; replace s1_1 := keepc hb4 s1_1 l1; replace s1_2 := keepc hb4 s1_2 l1; replace s1_3 := keepc hb4 s1_3 l1; replace s1_4 := keepc hb4 s1_4 l1; replace l0 := Nat.lt_of_lt_of_le l0 hb4.size; replace l1 := Nat.lt_of_lt_of_le l1 hb4.size; replace hx1 := hx1.to hb4; replace hx2 := hx2.to hb4; replace hx3 := hx3.to hb4; replace hy1 := hy1.to hb4; replace hy2 := hy2.to hb4; replace hy3 := hy3.to hb4; replace h1 := h1.to hb4; replace h2 := h2.to hb4; replace h3 := h3.to hb4; replace HW := Lib.hid (hstep HW hb4); clear hb4)
    | (go_at_call 108; refine (wcmp_any (na x * (nd y : Int)) (na y * (nd x : Int)) S2 S4 _ (by exact h2) (by exact h4) (by have h := (ab_mul_ln HSX.out.1 (ab_nat_ln HSY.out.2.2)); have h3 := HSX.out; have h4 := HSY.out; unfold sz at h3 h4; omega) (by have h := (ab_mul_ln HSY.out.1 (ab_nat_ln HSX.out.2.2)); have h3 := HSX.out; have h4 := HSY.out; unfold sz at h3 h4; omega)).mono ?_; rintro e w5 ⟨rfl, hb5⟩; replace s0_0 := keepc hb5 s0_0 l0; replace s0_1 := keepc hb5 s0_1 l0; replace s0_2 := keepc hb5 s0_2 l0; replace s0_3 := keepc hb5 s0_3 l0; replace s0_4 := keepc hb5 s0_4 l0; replace s1_0 := keepc hb5 s1_0 l1; replace s1_1 := keepc hb5 s1_1 l1; replace s1_2 := keepc hb5 s1_2 l1; replace s1_3 := keepc hb5 s1_3 l1; replace s1_4 := keepc hb5 s1_4 l1; replace l0 := Nat.lt_of_lt_of_le l0 hb5.size; replace l1 := Nat.lt_of_lt_of_le l1 hb5.size; replace hx1 := hx1.to hb5; replace hx2 := hx2.to hb5; replace hx3 := hx3.to hb5; replace hy1 := hy1.to hb5; replace hy2 := hy2.to hb5; replace hy3 := hy3.to hb5; replace h1 := h1.to hb5; replace h2 := h2.to hb5; replace h3 := h3.to hb5; replace h4 := h4.to hb5; replace HW := Lib.hid (hstep HW hb5); clear hb5))
  go_wp2_with fail
  go_ret
  exact ⟨ret_int HC.out, HW.out⟩

set_option maxHeartbeats 4000000 in
theorem cmpn_im (x y : Cx) (A1 A2 A3 B1 B2 B3 : Option Addr) (w : World) (hx : Num3 w A1 A2 A3 x) (hy : Num3 w B1 B2 B3 y) (hsx : sz 137438953472 x) (hsy : sz 137438953472 y) (h : na x * (nd y : Int) = na y * (nd x : Int)) :
    Calls Tryz.prog 50 #[.agg #[.bool (sn (na x)), .slice A1 (ln (ab (na x))) (ln (ab (na x))), .bool (sn (nb x)), .slice A2 (ln (ab (nb x))) (ln (ab (nb x))), .slice A3 (ln (un x)) (ln (un x))], .agg #[.bool (sn (na y)), .slice B1 (ln (ab (na y))) (ln (ab (na y))), .bool (sn (nb y)), .slice B2 (ln (ab (nb y))) (ln (ab (nb y))), .slice B3 (ln (un y)) (ln (un y))]] w (RetInt w (cmpC x y)) := by
  obtain ⟨hx1, hx2, hx3⟩ := hx
  have HSX := Lib.hid hsx
  clear hsx
  obtain ⟨hy1, hy2, hy3⟩ := hy
  have HSY := Lib.hid hsy
  clear hsy
  have HC := Lib.hid (cmpC_im h).symm
  have t := cmpZ_eq h
  clear h
  go_enter Tryz.func50, Tryz.ntmps50
  go_wp2_with fail
  obtain ⟨W, hW⟩ : ∃ W : World, W = ((w.alloc (.cells #[.bool (sn (na x)), .slice A1 (ln (ab (na x))) (ln (ab (na x))), .bool (sn (nb x)), .slice A2 (ln (ab (nb x))) (ln (ab (nb x))), .slice A3 (ln (un x)) (ln (un x))] 30)).alloc (.cells #[.bool (sn (na y)), .slice B1 (ln (ab (na y))) (ln (ab (na y))), .bool (sn (nb y)), .slice B2 (ln (ab (nb y))) (ln (ab (nb y))), .slice B3 (ln (un y)) (ln (un y))] 30)) := ⟨_, rfl⟩
  have s0_0 : W.cell? ⟨w.heap.size, 0, none⟩ = some (.bool (sn (na x))) := by subst hW; go_simp
  have s0_1 : W.cell? ⟨w.heap.size, 1, none⟩ = some (.slice A1 (ln (ab (na x))) (ln (ab (na x)))) := by subst hW; go_simp
  have s0_2 : W.cell? ⟨w.heap.size, 2, none⟩ = some (.bool (sn (nb x))) := by subst hW; go_simp
  have s0_3 : W.cell? ⟨w.heap.size, 3, none⟩ = some (.slice A2 (ln (ab (nb x))) (ln (ab (nb x)))) := by subst hW; go_simp
  have s0_4 : W.cell? ⟨w.heap.size, 4, none⟩ = some (.slice A3 (ln (un x)) (ln (un x))) := by subst hW; go_simp
  have s1_0 : W.cell? ⟨w.heap.size + 1, 0, none⟩ = some (.bool (sn (na y))) := by subst hW; go_simp
  have s1_1 : W.cell? ⟨w.heap.size + 1, 1, none⟩ = some (.slice B1 (ln (ab (na y))) (ln (ab (na y)))) := by subst hW; go_simp
  have s1_2 : W.cell? ⟨w.heap.size + 1, 2, none⟩ = some (.bool (sn (nb y))) := by subst hW; go_simp
  have s1_3 : W.cell? ⟨w.heap.size + 1, 3, none⟩ = some (.slice B2 (ln (ab (nb y))) (ln (ab (nb y)))) := by subst hW; go_simp
  have s1_4 : W.cell? ⟨w.heap.size + 1, 4, none⟩ = some (.slice B3 (ln (un y)) (ln (un y))) := by subst hW; go_simp
  have HW : Below w.heap.size w W := by subst hW; exact (((Below.refl w.heap.size w).alloc (Nat.le_refl _) _).alloc (by simp) _)
  have l0 : w.heap.size < W.heap.size := by subst hW; simp <;> omega
  have l1 : w.heap.size + 1 < W.heap.size := by subst hW; simp
  replace hx1 := hx1.to HW
  replace hx2 := hx2.to HW
  replace hx3 := hx3.to HW
  replace hy1 := hy1.to HW
  replace hy2 := hy2.to HW
  replace hy3 := hy3.to HW
  rw [← hW]
  clear hW
  replace HW := Lib.hid HW
  go_region_held3 (fun w' => w'.cell? ⟨w.heap.size, 0, none⟩ = some (.bool (sn (na x))) ∧ w'.cell? ⟨w.heap.size, 1, none⟩ = some (.slice A1 (ln (ab (na x))) (ln (ab (na x)))) ∧ w'.cell? ⟨w.heap.size, 2, none⟩ = some (.bool (sn (nb x))) ∧ w'.cell? ⟨w.heap.size, 3, none⟩ = some (.slice A2 (ln (ab (nb x))) (ln (ab (nb x)))) ∧ w'.cell? ⟨w.heap.size, 4, none⟩ = some (.slice A3 (ln (un x)) (ln (un x))) ∧ w'.cell? ⟨w.heap.size + 1, 0, none⟩ = some (.bool (sn (na y))) ∧ w'.cell? ⟨w.heap.size + 1, 1, none⟩ = some (.slice B1 (ln (ab (na y))) (ln (ab (na y)))) ∧ w'.cell? ⟨w.heap.size + 1, 2, none⟩ = some (.bool (sn (nb y))) ∧ w'.cell? ⟨w.heap.size + 1, 3, none⟩ = some (.slice B2 (ln (ab (nb y))) (ln (ab (nb y)))) ∧ w'.cell? ⟨w.heap.size + 1, 4, none⟩ = some (.slice B3 (ln (un y)) (ln (un y)))) (first | with_reducible exact ⟨s0_0, s0_1, s0_2, s0_3, s0_4, s1_0, s1_1, s1_2, s1_3, s1_4⟩ | with_reducible exact ⟨s0_0, s0_1, s0_2, s0_3, s0_4, s1_0, s1_1, s1_2, s1_3, s1_4⟩ | exact ⟨s0_0, s0_1, s0_2, s0_3, s0_4, s1_0, s1_1, s1_2, s1_3, s1_4⟩) (first
    | (go_at_call_of 89 (Value.agg #[.bool (sn (na y)), .slice B1 (ln (ab (na y))) (ln (ab (na y))), .bool (sn (nb y)), .slice B2 (ln (ab (nb y))) (ln (ab (nb y))), .slice B3 (ln (un y)) (ln (un y))]); refine (den_any y B1 B2 B3 _ (by exact num3_mk hy1 hy2 hy3)).mono ?_; rintro e w1 ⟨D1, rfl, h1, hb1⟩; have hb1 := undrew hb1; replace s0_0 := keepc hb1 s0_0 l0; replace s0_1 := keepc hb1 s0_1 l0; replace s0_2 := keepc hb1 s0_2 l0; replace s0_3 := keepc hb1 s0_3 l0; replace s0_4 := keepc hb1 s0_4 l0; replace s1_0 := keepc hb1 s1_0 l1; replace s1_1 := keepc hb1 s1_1 l1; replace s1_2 := keepc hb1 s1_2 l1; replace s1_3 := keepc hb1 s1_3 l1; replace s1_4 := keepc hb1 s1_4 l1; replace l0 := Nat.lt_of_lt_of_le l0 hb1.size; replace l1 := Nat.lt_of_lt_of_le l1 hb1.size; replace hx1 := hx1.to hb1; replace hx2 := hx2.to hb1; replace hx3 := hx3.to hb1; replace hy1 := hy1.to hb1; replace hy2 := hy2.to hb1; replace hy3 := hy3.to hb1; replace HW := Lib.hid (hstep HW hb1); clear hb1)
    | (go_at_call_of 97 (Value.slice A1 (ln (ab (na x))) (ln (ab (na x)))); refine (scaled_any (na x) (nd y) A1 D1 _ (by exact hx1) (by exact h1) (by have := HSX.out; unfold sz at this; omega) (by have := HSY.out; unfold sz at this; omega)).mono ?_; rintro e w2 ⟨S2, rfl, h2, hb2⟩; replace s0_0 := keepc hb2 s0_0 l0; replace s0_1 := keepc hb2 s0_1 l0; replace s0_2 := keepc hb2 s0_2 l0; replace s0_3 := keepc hb2 s0_3 l0; replace s0_4 := keepc hb2 s0_4 l0; replace s1_0 := keepc hb2 s1_0 l1; replace s1_1 := keepc hb2 s1_1 l1; replace s1_2 := keepc hb2 s1_2 l1; replace s1_3 := keepc hb2 s1_3 l1; replace s1_4 := keepc hb2 s1_4 l1; replace l0 := Nat.lt_of_lt_of_le l0 hb2.size; replace l1 := Nat.lt_of_lt_of_le l1 hb2.size; replace hx1 := hx1.to hb2; replace hx2 := hx2.to hb2; replace hx3 := hx3.to hb2; replace hy1 := hy1.to hb2; replace hy2 := hy2.to hb2; replace hy3 := hy3.to hb2; replace h1 := h1.to hb2; replace HW := Lib.hid (hstep HW hb2); clear hb2)
    | (go_at_call_of 89 (Value.agg #[.bool (sn (na x)), .slice A1 (ln (ab (na x))) (ln (ab (na x))), .bool (sn (nb x)), .slice A2 (ln (ab (nb x))) (ln (ab (nb x))), .slice A3 (ln (un x)) (ln (un x))]); refine (den_any x A1 A2 A3 _ (by exact num3_mk hx1 hx2 hx3)).mono ?_; rintro e w3 ⟨D3, rfl, h3, hb3⟩; replace s0_0 := keepc hb3 s0_0 l0; replace s0_1 := keepc hb3 s0_1 l0; replace s0_2 := keepc hb3 s0_2 l0; replace s0_3 := keepc hb3 s0_3 l0; replace s0_4 := keepc hb3 s0_4 l0; replace s1_0 := keepc hb3 s1_0 l1; replace s1_1 := keepc hb3 s1_1 l1; replace s1_2 := keepc hb3 s1_2 l1; replace s1_3 := keepc hb3 s1_3 l1; replace s1_4 := keepc hb3 s1_4 l1; replace l0 := Nat.lt_of_lt_of_le l0 hb3.size; replace l1 := Nat.lt_of_lt_of_le l1 hb3.size; replace hx1 := hx1.to hb3; replace hx2 := hx2.to hb3; replace hx3 := hx3.to hb3; replace hy1 := hy1.to hb3; replace hy2 := hy2.to hb3; replace hy3 := hy3.to hb3; replace h1 := h1.to hb3; replace h2 := h2.to hb3; replace HW := Lib.hid (hstep HW hb3); clear hb3)
    | (go_at_call_of 97 (Value.slice B1 (ln (ab (na y))) (ln (ab (na y)))); refine (scaled_any (na y) (nd x) B1 D3 _ (by exact hy1) (by exact h3) (by have := HSY.out; unfold sz at this; omega) (by have := HSX.out; unfold sz at this; omega)).mono ?_; rintro e w4 ⟨S4, rfl, h4, hb4⟩; replace s0_0 := keepc hb4 s0_0 l0; replace s0_1 := keepc hb4 s0_1 l0; replace s0_2 := keepc hb4 s0_2 l0; replace s0_3 := keepc hb4 s0_3 l0; replace s0_4 := keepc hb4 s0_4 l0; replace s1_0 := keepc hb4 s1_0 l1; replace s1_1 := keepc hb4 s1_1 l1; replace s1_2 := keepc hb4 s1_2 l1; replace s1_3 := keepc hb4 s1_3 l1; replace s1_4 := keepc hb4 s1_4 l1; replace l0 := Nat.lt_of_lt_of_le l0 hb4.size; replace l1 := Nat.lt_of_lt_of_le l1 hb4.size; replace hx1 := hx1.to hb4; replace hx2 := hx2.to hb4; replace hx3 := hx3.to hb4; replace hy1 := hy1.to hb4; replace hy2 := hy2.to hb4; replace hy3 := hy3.to hb4; replace h1 := h1.to hb4; replace h2 := h2.to hb4; replace h3 := h3.to hb4; replace HW := Lib.hid (hstep HW hb4); clear hb4)
    | (go_at_call 108; refine (wcmp_any (na x * (nd y : Int)) (na y * (nd x : Int)) S2 S4 _ (by exact h2) (by exact h4) (by have h := (ab_mul_ln HSX.out.1 (ab_nat_ln HSY.out.2.2)); have h3 := HSX.out; have h4 := HSY.out; unfold sz at h3 h4; omega) (by have h := (ab_mul_ln HSY.out.1 (ab_nat_ln HSX.out.2.2)); have h3 := HSX.out; have h4 := HSY.out; unfold sz at h3 h4; omega)).mono ?_; rintro e w5 ⟨rfl, hb5⟩; replace s0_0 := keepc hb5 s0_0 l0; replace s0_1 := keepc hb5 s0_1 l0; replace s0_2 := keepc hb5 s0_2 l0; replace s0_3 := keepc hb5 s0_3 l0; replace s0_4 := keepc hb5 s0_4 l0; replace s1_0 := keepc hb5 s1_0 l1; replace s1_1 := keepc hb5 s1_1 l1; replace s1_2 := keepc hb5 s1_2 l1; replace s1_3 := keepc hb5 s1_3 l1; replace s1_4 := keepc hb5 s1_4 l1; replace l0 := Nat.lt_of_lt_of_le l0 hb5.size; replace l1 := Nat.lt_of_lt_of_le l1 hb5.size; replace hx1 := hx1.to hb5; replace hx2 := hx2.to hb5; replace hx3 := hx3.to hb5; replace hy1 := hy1.to hb5; replace hy2 := hy2.to hb5; replace hy3 := hy3.to hb5; replace h1 := h1.to hb5; replace h2 := h2.to hb5; replace h3 := h3.to hb5; replace h4 := h4.to hb5; replace HW := Lib.hid (hstep HW hb5); clear hb5))
  go_wp2_with fail
  go_region_held3 (fun w' => w'.cell? ⟨w.heap.size, 0, none⟩ = some (.bool (sn (na x))) ∧ w'.cell? ⟨w.heap.size, 1, none⟩ = some (.slice A1 (ln (ab (na x))) (ln (ab (na x)))) ∧ w'.cell? ⟨w.heap.size, 2, none⟩ = some (.bool (sn (nb x))) ∧ w'.cell? ⟨w.heap.size, 3, none⟩ = some (.slice A2 (ln (ab (nb x))) (ln (ab (nb x)))) ∧ w'.cell? ⟨w.heap.size, 4, none⟩ = some (.slice A3 (ln (un x)) (ln (un x))) ∧ w'.cell? ⟨w.heap.size + 1, 0, none⟩ = some (.bool (sn (na y))) ∧ w'.cell? ⟨w.heap.size + 1, 1, none⟩ = some (.slice B1 (ln (ab (na y))) (ln (ab (na y)))) ∧ w'.cell? ⟨w.heap.size + 1, 2, none⟩ = some (.bool (sn (nb y))) ∧ w'.cell? ⟨w.heap.size + 1, 3, none⟩ = some (.slice B2 (ln (ab (nb y))) (ln (ab (nb y)))) ∧ w'.cell? ⟨w.heap.size + 1, 4, none⟩ = some (.slice B3 (ln (un y)) (ln (un y)))) (first | with_reducible exact ⟨s0_0, s0_1, s0_2, s0_3, s0_4, s1_0, s1_1, s1_2, s1_3, s1_4⟩ | with_reducible exact ⟨s0_0, s0_1, s0_2, s0_3, s0_4, s1_0, s1_1, s1_2, s1_3, s1_4⟩ | exact ⟨s0_0, s0_1, s0_2, s0_3, s0_4, s1_0, s1_1, s1_2, s1_3, s1_4⟩) (first
    | (go_at_call_of 89 (Value.agg #[.bool (sn (na y)), .slice B1 (ln (ab (na y))) (ln (ab (na y))), .bool (sn (nb y)), .slice B2 (ln (ab (nb y))) (ln (ab (nb y))), .slice B3 (ln (un y)) (ln (un y))]); refine (den_any y B1 B2 B3 _ (by exact num3_mk hy1 hy2 hy3)).mono ?_; rintro e w6 ⟨D7, rfl, h7, hb6⟩; have hb6 := undrew hb6; replace s0_0 := keepc hb6 s0_0 l0; replace s0_1 := keepc hb6 s0_1 l0; replace s0_2 := keepc hb6 s0_2 l0; replace s0_3 := keepc hb6 s0_3 l0; replace s0_4 := keepc hb6 s0_4 l0; replace s1_0 := keepc hb6 s1_0 l1; replace s1_1 := keepc hb6 s1_1 l1; replace s1_2 := keepc hb6 s1_2 l1; replace s1_3 := keepc hb6 s1_3 l1; replace s1_4 := keepc hb6 s1_4 l1; replace l0 := Nat.lt_of_lt_of_le l0 hb6.size; replace l1 := Nat.lt_of_lt_of_le l1 hb6.size; replace hx1 := hx1.to hb6; replace hx2 := hx2.to hb6; replace hx3 := hx3.to hb6; replace hy1 := hy1.to hb6; replace hy2 := hy2.to hb6; replace hy3 := hy3.to hb6; replace h1 := h1.to hb6; replace h2 := h2.to hb6; replace h3 := h3.to hb6; replace h4 := h4.to hb6; replace HW := Lib.hid (hstep HW hb6); clear hb6)
    | (go_at_call_of 97 (Value.slice A2 (ln (ab (nb x))) (ln (ab (nb x)))); refine (scaled_any (nb x) (nd y) A2 D7 _ (by exact hx2) (by exact h7) (by have := HSX.out; unfold sz at this; omega) (by have := HSY.out; unfold sz at this; omega)).mono ?_; rintro e w7 ⟨S8, rfl, h8, hb7⟩; replace s0_0 := keepc hb7 s0_0 l0; replace s0_1 := keepc hb7 s0_1 l0; replace s0_2 := keepc hb7 s0_2 l0; replace s0_3 := keepc hb7 s0_3 l0; replace s0_4 := keepc hb7 s0_4 l0; replace s1_0 := keepc hb7 s1_0 l1; replace s1_1 := keepc hb7 s1_1 l1; replace s1_2 := keepc hb7 s1_2 l1; replace s1_3 := keepc hb7 s1_3 l1; replace s1_4 := keepc hb7 s1_4 l1; replace l0 := Nat.lt_of_lt_of_le l0 hb7.size; replace l1 := Nat.lt_of_lt_of_le l1 hb7.size; replace hx1 := hx1.to hb7; replace hx2 := hx2.to hb7; replace hx3 := hx3.to hb7; replace hy1 := hy1.to hb7; replace hy2 := hy2.to hb7; replace hy3 := hy3.to hb7; replace h1 := h1.to hb7; replace h2 := h2.to hb7; replace h3 := h3.to hb7; replace h4 := h4.to hb7; replace h7 := h7.to hb7; replace HW := Lib.hid (hstep HW hb7); clear hb7)
    | (go_at_call_of 89 (Value.agg #[.bool (sn (na x)), .slice A1 (ln (ab (na x))) (ln (ab (na x))), .bool (sn (nb x)), .slice A2 (ln (ab (nb x))) (ln (ab (nb x))), .slice A3 (ln (un x)) (ln (un x))]); refine (den_any x A1 A2 A3 _ (by exact num3_mk hx1 hx2 hx3)).mono ?_; rintro e w8 ⟨D9, rfl, h9, hb8⟩; replace s0_0 := keepc hb8 s0_0 l0; replace s0_1 := keepc hb8 s0_1 l0; replace s0_2 := keepc hb8 s0_2 l0; replace s0_3 := keepc hb8 s0_3 l0; replace s0_4 := keepc hb8 s0_4 l0; replace s1_0 := keepc hb8 s1_0 l1; replace s1_1 := keepc hb8 s1_1 l1; replace s1_2 := keepc hb8 s1_2 l1; replace s1_3 := keepc hb8 s1_3 l1; replace s1_4 := keepc hb8 s1_4 l1; replace l0 := Nat.lt_of_lt_of_le l0 hb8.size; replace l1 := Nat.lt_of_lt_of_le l1 hb8.size; replace hx1 := hx1.to hb8; replace hx2 := hx2.to hb8; replace hx3 := hx3.to hb8; replace hy1 := hy1.to hb8; replace hy2 := hy2.to hb8; replace hy3 := hy3.to hb8; replace h1 := h1.to hb8; replace h2 := h2.to hb8; replace h3 := h3.to hb8; replace h4 := h4.to hb8; replace h7 := h7.to hb8; replace h8 := h8.to hb8; replace HW := Lib.hid (hstep HW hb8); clear hb8)
    | (go_at_call_of 97 (Value.slice B2 (ln (ab (nb y))) (ln (ab (nb y)))); refine (scaled_any (nb y) (nd x) B2 D9 _ (by exact hy2) (by exact h9) (by have := HSY.out; unfold sz at this; omega) (by have := HSX.out; unfold sz at this; omega)).mono ?_; rintro e w9 ⟨S10, rfl, h10, hb9⟩; replace s0_0 := keepc hb9 s0_0 l0; replace s0_1 := keepc hb9 s0_1 l0; replace s0_2 := keepc hb9 s0_2 l0; replace s0_3 := keepc hb9 s0_3 l0; replace s0_4 := keepc hb9 s0_4 l0; replace s1_0 := keepc hb9 s1_0 l1; replace s1_1 := keepc hb9 s1_1 l1; replace s1_2 := keepc hb9 s1_2 l1; replace s1_3 := keepc hb9 s1_3 l1; replace s1_4 := keepc hb9 s1_4 l1; replace l0 := Nat.lt_of_lt_of_le l0 hb9.size; replace l1 := Nat.lt_of_lt_of_le l1 hb9.size; replace hx1 := hx1.to hb9; replace hx2 := hx2.to hb9; replace hx3 := hx3.to hb9; replace hy1 := hy1.to hb9; replace hy2 := hy2.to hb9; replace hy3 := hy3.to hb9; replace h1 := h1.to hb9; replace h2 := h2.to hb9; replace h3 := h3.to hb9; replace h4 := h4.to hb9; replace h7 := h7.to hb9; replace h8 := h8.to hb9; replace h9 := h9.to hb9; replace HW := Lib.hid (hstep HW hb9); clear hb9)
    | (go_at_call 108; refine (wcmp_any (nb x * (nd y : Int)) (nb y * (nd x : Int)) S8 S10 _ (by exact h8) (by exact h10) (by have h := (ab_mul_ln HSX.out.2.1 (ab_nat_ln HSY.out.2.2)); have h3 := HSX.out; have h4 := HSY.out; unfold sz at h3 h4; omega) (by have h := (ab_mul_ln HSY.out.2.1 (ab_nat_ln HSX.out.2.2)); have h3 := HSX.out; have h4 := HSY.out; unfold sz at h3 h4; omega)).mono ?_; rintro e w10 ⟨rfl, hb10⟩; replace s0_0 := keepc hb10 s0_0 l0; replace s0_1 := keepc hb10 s0_1 l0; replace s0_2 := keepc hb10 s0_2 l0; replace s0_3 := keepc hb10 s0_3 l0; replace s0_4 := keepc hb10 s0_4 l0; replace s1_0 := keepc hb10 s1_0 l1; replace s1_1 := keepc hb10 s1_1 l1; replace s1_2 := keepc hb10 s1_2 l1; replace s1_3 := keepc hb10 s1_3 l1; replace s1_4 := keepc hb10 s1_4 l1; replace l0 := Nat.lt_of_lt_of_le l0 hb10.size; replace l1 := Nat.lt_of_lt_of_le l1 hb10.size; replace hx1 := hx1.to hb10; replace hx2 := hx2.to hb10; replace hx3 := hx3.to hb10; replace hy1 := hy1.to hb10; replace hy2 := hy2.to hb10; replace hy3 := hy3.to hb10; replace h1 := h1.to hb10; replace h2 := h2.to hb10; replace h3 := h3.to hb10; replace h4 := h4.to hb10; replace h7 := h7.to hb10; replace h8 := h8.to hb10; replace h9 := h9.to hb10; replace h10 := h10.to hb10; replace HW := Lib.hid (hstep HW hb10); clear hb10))
  go_wp2_with fail
  go_ret
  exact ⟨ret_int HC.out, HW.out⟩

/-- 'x.Cmp(y)'. -/
theorem cmp_num (x y : Cx) (A1 A2 A3 B1 B2 B3 : Option Addr) (w : World) (hx : Num3 w A1 A2 A3 x) (hy : Num3 w B1 B2 B3 y) (hsx : sz 137438953472 x) (hsy : sz 137438953472 y) :
    Calls Tryz.prog 50 #[.agg #[.bool (sn (na x)), .slice A1 (ln (ab (na x))) (ln (ab (na x))), .bool (sn (nb x)), .slice A2 (ln (ab (nb x))) (ln (ab (nb x))), .slice A3 (ln (un x)) (ln (un x))], .agg #[.bool (sn (na y)), .slice B1 (ln (ab (na y))) (ln (ab (na y))), .bool (sn (nb y)), .slice B2 (ln (ab (nb y))) (ln (ab (nb y))), .slice B3 (ln (un y)) (ln (un y))]] w (RetInt w (cmpC x y)) := by
  by_cases h : na x * (nd y : Int) = na y * (nd x : Int)
  · exact cmpn_im x y A1 A2 A3 B1 B2 B3 w hx hy hsx hsy h
  · exact cmpn_re x y A1 A2 A3 B1 B2 B3 w hx hy hsx hsy h

end Go.Proofs.YtgpmlhpgdalheaaGreat
