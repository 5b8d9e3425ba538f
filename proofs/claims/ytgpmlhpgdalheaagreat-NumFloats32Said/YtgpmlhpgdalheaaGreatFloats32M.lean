/- Near64 of the program and of the reference. Words of float32 as numbers: parts, reading, the float64 of a float32, and that rounding its value to float32 gives it back. No program is in sight. Conversions of any float32 to float64; rounding the value of a float32 gives it back. Complex64 of both sides; NumFloats32: the walk. The statement Rows.NumFloats32Said: for every input the law returns true, and each argument reads behind the call as it read before. No condition. -/
import Derived.Test.YtgpmlhpgdalheaaGreatGB
import Derived.Test.YtgpmlhpgdalheaaGreatHC
import Derived.Laws.ComplexArith
import Derived.Test.YtgpmlhpgdalheaaGreatHD
import Derived.Test.YtgpmlhpgdalheaaGreatLawA
import Derived.Test.YtgpmlhpgdalheaaGreatAwakeF
import Derived.Test.YtgpmlhpgdalheaaGreatRows
import Derived.ProofKit
import Derived.OpenShut
import Derived.Lib.SmallJoins
namespace Go.Proofs.YtgpmlhpgdalheaaGreat
open Go.RowKit Pl Fl
set_option linter.unusedVariables false
set_option linter.unusedSimpArgs false
def Fl.to32 (X : Nat) : Nat := (floatToFloatBits .f64 X .f32).getD 0
theorem conv_32 (a : Int) {d : Nat} (hd : d ≠ 0) (w : World) : (convert 44 47 (.float .f64 (srnd 24 (-149) 128 a d 2))).run Tryz.prog w = .ok (.float .f32 (to32 (srnd 24 (-149) 128 a d 2))) w := by
  obtain ⟨r, hr⟩ := conv32_srnd a hd
  rw [run_convert_float_float w _ _ .f64 .f32 _ r (by kernel_rfl) Tryz.underlying47 hr]
  unfold to32; rw [hr]; rfl
set_option maxHeartbeats 4000000 in
theorem near64_any (x : Cx) (A1 A2 A3 : Option Addr) (w : World) (hx : Num3 w A1 A2 A3 x) (hsz : sz 100000 x) :
    Calls Tryz.prog 15 #[.agg #[.bool (sn (na x)), .slice A1 (ln (ab (na x))) (ln (ab (na x))), .bool (sn (nb x)), .slice A2 (ln (ab (nb x))) (ln (ab (nb x))), .slice A3 (ln (un x)) (ln (un x))]] w (fun e w' => e = .returned (.complex .f32 (to32 (srnd 24 (-149) 128 (na x) (nd x) 2)) (to32 (srnd 24 (-149) 128 (nb x) (nd x) 2))) ∧ Below w.heap.size w w') := by
  have HSX := Lib.hid hsz
  clear hsz
  have c1 := conv_32 (na x) (nd_ne0 x)
  have c2 := conv_32 (nb x) (nd_ne0 x)
  go_enter Tryz.func15, Tryz.ntmps15
  go_wp2_with fail
  obtain ⟨W, hW⟩ : ∃ W : World, W = (w.alloc (.cells #[.bool (sn (na x)), .slice A1 (ln (ab (na x))) (ln (ab (na x))), .bool (sn (nb x)), .slice A2 (ln (ab (nb x))) (ln (ab (nb x))), .slice A3 (ln (un x)) (ln (un x))] 30)) := ⟨_, rfl⟩
  have s0_0 : W.cell? ⟨w.heap.size, 0, none⟩ = some (.bool (sn (na x))) := by subst hW; go_simp
  have s0_1 : W.cell? ⟨w.heap.size, 1, none⟩ = some (.slice A1 (ln (ab (na x))) (ln (ab (na x)))) := by subst hW; go_simp
  have s0_2 : W.cell? ⟨w.heap.size, 2, none⟩ = some (.bool (sn (nb x))) := by subst hW; go_simp
  have s0_3 : W.cell? ⟨w.heap.size, 3, none⟩ = some (.slice A2 (ln (ab (nb x))) (ln (ab (nb x)))) := by subst hW; go_simp
  have s0_4 : W.cell? ⟨w.heap.size, 4, none⟩ = some (.slice A3 (ln (un x)) (ln (un x))) := by subst hW; go_simp
  have HW : Below w.heap.size w W := by subst hW; exact ((Below.refl w.heap.size w).alloc (Nat.le_refl _) _)
  have l0 : w.heap.size < W.heap.size := by subst hW; simp
  replace hx := hx.to HW
  rw [← hW]
  clear hW
  replace HW := Lib.hid HW
  go_region_held3 (fun w' => w'.cell? ⟨w.heap.size, 0, none⟩ = some (.bool (sn (na x))) ∧ w'.cell? ⟨w.heap.size, 1, none⟩ = some (.slice A1 (ln (ab (na x))) (ln (ab (na x)))) ∧ w'.cell? ⟨w.heap.size, 2, none⟩ = some (.bool (sn (nb x))) ∧ w'.cell? ⟨w.heap.size, 3, none⟩ = some (.slice A2 (ln (ab (nb x))) (ln (ab (nb x)))) ∧ w'.cell? ⟨w.heap.size, 4, none⟩ = some (.slice A3 (ln (un x)) (ln (un x)))) (first | with_reducible exact ⟨s0_0, s0_1, s0_2, s0_3, s0_4⟩ | with_reducible exact ⟨s0_0, s0_1, s0_2, s0_3, s0_4⟩ | exact ⟨s0_0, s0_1, s0_2, s0_3, s0_4⟩) (first
    | (have _ := m5; go_at_call 88; refine (signed_single (nb x) (nd x) 2 A2 D2 _ (by exact hx.2.1) (by exact hD2) (by omega) (nd_ne0 x) (by have := HSX.out; unfold sz at this; omega) (by have := HSX.out; unfold sz at this; omega)).mono ?_; rintro e w6 ⟨rfl, hb6⟩; replace s0_0 := keepc hb6 s0_0 l0; replace s0_1 := keepc hb6 s0_1 l0; replace s0_2 := keepc hb6 s0_2 l0; replace s0_3 := keepc hb6 s0_3 l0; replace s0_4 := keepc hb6 s0_4 l0; replace l0 := Nat.lt_of_lt_of_le l0 hb6.size; replace hx := hx.to hb6; replace hD := hD.to hb6; replace hD2 := hD2.to hb6; replace HW := Lib.hid (hstep HW hb6); clear hb6; have m6 : True := trivial)
    | (have _ := m4; go_at_call 89; refine (den_any x A1 A2 A3 _ (by exact hx)).mono ?_; rintro e w5 ⟨D2, rfl, hD2, hb5⟩; replace s0_0 := keepc hb5 s0_0 l0; replace s0_1 := keepc hb5 s0_1 l0; replace s0_2 := keepc hb5 s0_2 l0; replace s0_3 := keepc hb5 s0_3 l0; replace s0_4 := keepc hb5 s0_4 l0; replace l0 := Nat.lt_of_lt_of_le l0 hb5.size; replace hx := hx.to hb5; replace hD := hD.to hb5; replace HW := Lib.hid (hstep HW hb5); clear hb5; have m5 : True := trivial)
    | (have _ := m3; go_at_call 91; refine (single_fmt _).mono ?_; rintro e w4 ⟨rfl, hb4⟩; replace s0_0 := keepc hb4 s0_0 l0; replace s0_1 := keepc hb4 s0_1 l0; replace s0_2 := keepc hb4 s0_2 l0; replace s0_3 := keepc hb4 s0_3 l0; replace s0_4 := keepc hb4 s0_4 l0; replace l0 := Nat.lt_of_lt_of_le l0 hb4.size; replace hx := hx.to hb4; replace hD := hD.to hb4; replace HW := Lib.hid (hstep HW hb4); clear hb4; have m4 : True := trivial)
    | (have _ := m2; go_at_call 88; refine (signed_single (na x) (nd x) 2 A1 D _ (by exact hx.1) (by exact hD) (by omega) (nd_ne0 x) (by have := HSX.out; unfold sz at this; omega) (by have := HSX.out; unfold sz at this; omega)).mono ?_; rintro e w3 ⟨rfl, hb3⟩; replace s0_0 := keepc hb3 s0_0 l0; replace s0_1 := keepc hb3 s0_1 l0; replace s0_2 := keepc hb3 s0_2 l0; replace s0_3 := keepc hb3 s0_3 l0; replace s0_4 := keepc hb3 s0_4 l0; replace l0 := Nat.lt_of_lt_of_le l0 hb3.size; replace hx := hx.to hb3; replace hD := hD.to hb3; replace HW := Lib.hid (hstep HW hb3); clear hb3; have m3 : True := trivial)
    | (have _ := m1; go_at_call 89; refine (den_any x A1 A2 A3 _ (by exact hx)).mono ?_; rintro e w2 ⟨D, rfl, hD, hb2⟩; replace s0_0 := keepc hb2 s0_0 l0; replace s0_1 := keepc hb2 s0_1 l0; replace s0_2 := keepc hb2 s0_2 l0; replace s0_3 := keepc hb2 s0_3 l0; replace s0_4 := keepc hb2 s0_4 l0; replace l0 := Nat.lt_of_lt_of_le l0 hb2.size; replace hx := hx.to hb2; replace HW := Lib.hid (hstep HW hb2); clear hb2; have m2 : True := trivial)
    | (go_at_call 91; refine (single_fmt _).mono ?_; rintro e w1 ⟨rfl, hb1⟩; have hb1 := undrew hb1; replace s0_0 := keepc hb1 s0_0 l0; replace s0_1 := keepc hb1 s0_1 l0; replace s0_2 := keepc hb1 s0_2 l0; replace s0_3 := keepc hb1 s0_3 l0; replace s0_4 := keepc hb1 s0_4 l0; replace l0 := Nat.lt_of_lt_of_le l0 hb1.size; replace hx := hx.to hb1; replace HW := Lib.hid (hstep HW hb1); clear hb1; have m1 : True := trivial))
  go_wp2_with fail
  go_ret
  exact ⟨rfl, HW.out⟩

set_option maxHeartbeats 4000000 in
theorem rnear64_any (x : Cx) (A1 A2 A3 : Option Addr) (cA1 cA2 cA3 : Nat) (w : World) (hx : Num3C w A1 A2 A3 x) (hsx : sz 100000 x) :
    Calls Tryz.prog 16 #[.agg #[.bool (sn (na x)), .slice A1 (ln (ab (na x))) cA1, .bool (sn (nb x)), .slice A2 (ln (ab (nb x))) cA2, .slice A3 (ln (nd x)) cA3]] w (fun e w' => e = .returned (.complex .f32 (to32 (srnd 24 (-149) 128 (na x) (nd x) 2)) (to32 (srnd 24 (-149) 128 (nb x) (nd x) 2))) ∧ Below w.heap.size w w') := by
  obtain ⟨hx1, hx2, hx3⟩ := hx
  have HSX := Lib.hid hsx
  clear hsx
  have c1 := conv_32 (na x) (nd_ne0 x)
  have c2 := conv_32 (nb x) (nd_ne0 x)
  go_enter Tryz.func16, Tryz.ntmps16
  go_wp2_with fail
  obtain ⟨W, hW⟩ : ∃ W : World, W = (w.alloc (.cells #[.bool (sn (na x)), .slice A1 (ln (ab (na x))) cA1, .bool (sn (nb x)), .slice A2 (ln (ab (nb x))) cA2, .slice A3 (ln (nd x)) cA3] 34)) := ⟨_, rfl⟩
  have s0_0 : W.cell? ⟨w.heap.size, 0, none⟩ = some (.bool (sn (na x))) := by subst hW; go_simp
  have s0_1 : W.cell? ⟨w.heap.size, 1, none⟩ = some (.slice A1 (ln (ab (na x))) cA1) := by subst hW; go_simp
  have s0_2 : W.cell? ⟨w.heap.size, 2, none⟩ = some (.bool (sn (nb x))) := by subst hW; go_simp
  have s0_3 : W.cell? ⟨w.heap.size, 3, none⟩ = some (.slice A2 (ln (ab (nb x))) cA2) := by subst hW; go_simp
  have s0_4 : W.cell? ⟨w.heap.size, 4, none⟩ = some (.slice A3 (ln (nd x)) cA3) := by subst hW; go_simp
  have HW : Below w.heap.size w W := by subst hW; exact ((Below.refl w.heap.size w).alloc (Nat.le_refl _) _)
  have l0 : w.heap.size < W.heap.size := by subst hW; simp
  replace hx1 := hx1.to HW
  replace hx2 := hx2.to HW
  replace hx3 := hx3.to HW
  rw [← hW]
  clear hW
  replace HW := Lib.hid HW
  go_region_held3 (fun w' => w'.cell? ⟨w.heap.size, 0, none⟩ = some (.bool (sn (na x))) ∧ w'.cell? ⟨w.heap.size, 1, none⟩ = some (.slice A1 (ln (ab (na x))) cA1) ∧ w'.cell? ⟨w.heap.size, 2, none⟩ = some (.bool (sn (nb x))) ∧ w'.cell? ⟨w.heap.size, 3, none⟩ = some (.slice A2 (ln (ab (nb x))) cA2) ∧ w'.cell? ⟨w.heap.size, 4, none⟩ = some (.slice A3 (ln (nd x)) cA3)) (first | with_reducible exact ⟨s0_0, s0_1, s0_2, s0_3, s0_4⟩ | with_reducible exact ⟨s0_0, s0_1, s0_2, s0_3, s0_4⟩ | exact ⟨s0_0, s0_1, s0_2, s0_3, s0_4⟩) (first
    | (have _ := m1; go_at_call 90; refine (rnear_single (nb x) (nd x) A2 A3 cA2 cA3 _ (by exact hx2) (by exact hx3) (nd_ne0 x) (by have := HSX.out; unfold sz at this; omega) (by have := HSX.out; unfold sz at this; omega)).mono ?_; rintro e w2 ⟨rfl, hb2⟩; replace s0_0 := keepc hb2 s0_0 l0; replace s0_1 := keepc hb2 s0_1 l0; replace s0_2 := keepc hb2 s0_2 l0; replace s0_3 := keepc hb2 s0_3 l0; replace s0_4 := keepc hb2 s0_4 l0; replace l0 := Nat.lt_of_lt_of_le l0 hb2.size; replace hx1 := hx1.to hb2; replace hx2 := hx2.to hb2; replace hx3 := hx3.to hb2; replace HW := Lib.hid (hstep HW hb2); clear hb2; have m2 : True := trivial)
    | (go_at_call 90; refine (rnear_single (na x) (nd x) A1 A3 cA1 cA3 _ (by exact hx1) (by exact hx3) (nd_ne0 x) (by have := HSX.out; unfold sz at this; omega) (by have := HSX.out; unfold sz at this; omega)).mono ?_; rintro e w1 ⟨rfl, hb1⟩; have hb1 := undrew hb1; replace s0_0 := keepc hb1 s0_0 l0; replace s0_1 := keepc hb1 s0_1 l0; replace s0_2 := keepc hb1 s0_2 l0; replace s0_3 := keepc hb1 s0_3 l0; replace s0_4 := keepc hb1 s0_4 l0; replace l0 := Nat.lt_of_lt_of_le l0 hb1.size; replace hx1 := hx1.to hb1; replace hx2 := hx2.to hb1; replace hx3 := hx3.to hb1; replace HW := Lib.hid (hstep HW hb1); clear hb1; have m1 : True := trivial))
  go_wp2_with fail
  go_ret
  exact ⟨rfl, HW.out⟩

end Go.Proofs.YtgpmlhpgdalheaaGreat

namespace Go.Proofs.YtgpmlhpgdalheaaGreat
open Go.RowKit Pl Fl
set_option linter.unusedVariables false
set_option linter.unusedSimpArgs false
namespace Fl
open Ieee
def yE (X : Nat) : Nat := X / 8388608 % 256
def yF (X : Nat) : Nat := X % 8388608
def yS (X : Nat) : Bool := decide (2147483648 ≤ X)
def yM (X : Nat) : Nat := if yE X = 0 then yF X else 8388608 + yF X
def yP (X : Nat) : Int := (if yE X = 0 then 1 else (yE X : Int)) - 150
theorem yE_lt (X : Nat) : yE X < 256 := Nat.mod_lt _ (by decide)
theorem yF_lt (X : Nat) : yF X < 8388608 := Nat.mod_lt _ (by decide)
theorem yM_lt (X : Nat) : yM X < 16777216 := by have := yF_lt X; unfold yM; split <;> omega
theorem yP_lo (X : Nat) : -149 ≤ yP X := by unfold yP; split <;> omega
theorem yP_fin {X : Nat} (h : yE X ≠ 255) : yP X ≤ 104 := by have := yE_lt X; unfold yP; split <;> omega
theorem read32_parts {X : Nat} (hX : X < 4294967296) : (X / 2147483648 % 2 == 1) = yS X ∧ X % 2147483648 = yE X * 8388608 + yF X ∧ X % 2147483648 / 8388608 = yE X ∧ X % 2147483648 % 8388608 = yF X := by
  unfold yS yE yF
  refine ⟨?_, by omega, by omega, by omega⟩
  rw [Bool.eq_iff_iff, beq_iff_eq, decide_eq_true_eq]; omega
theorem read32_fin {X : Nat} (hX : X < 4294967296) (h : yE X ≠ 255) : Ieee.single.read X = .number (yS X) (yM X) (yP X) := by
  obtain ⟨q1, q2, q3, q4⟩ := read32_parts hX
  have h1 := yE_lt X
  have h2 := yF_lt X
  unfold Format.read
  simp only [sg_sign, sg_binade, sg_inf, sg_least, q1, q3, q4]
  rw [q2]
  unfold yM yP
  by_cases h0 : yE X = 0
  · rw [if_pos (by omega), if_pos h0, if_pos h0, h0, Nat.zero_mul, Nat.zero_add]; rfl
  · rw [if_neg (by omega), if_pos (by omega), if_neg h0, if_neg h0]
    congr 1
    omega
theorem read32_inf {X : Nat} (hX : X < 4294967296) (h : yE X = 255) (h0 : yF X = 0) : Ieee.single.read X = .infinity (yS X) := by
  obtain ⟨q1, q2, q3, q4⟩ := read32_parts hX
  unfold Format.read
  simp only [sg_sign, sg_binade, sg_inf, sg_least, q1, q3, q4]
  rw [q2, if_neg (by omega), if_neg (by omega), if_pos (by omega)]
theorem read32_nan {X : Nat} (hX : X < 4294967296) (h : yE X = 255) (h0 : yF X ≠ 0) : ∃ n, Ieee.single.read X = .nan (yS X) n := by
  obtain ⟨q1, q2, q3, q4⟩ := read32_parts hX
  unfold Format.read
  simp only [sg_sign, sg_binade, sg_inf, sg_least, q1, q3, q4]
  rw [q2, if_neg (by omega), if_neg (by omega), if_neg (by omega)]
  exact ⟨_, rfl⟩
/-- The word of the parts. -/
theorem y_word {X : Nat} (hX : X < 4294967296) (hE : yE X ≠ 255) (h0 : yM X ≠ 0) : Ieee.single.nearest (yS X) (yM X) (yP X) = X := by
  obtain ⟨q1, q2, q3, q4⟩ := read32_parts hX
  have hF := yF_lt X
  have hE2 := yE_lt X
  have hs : (if yS X = true then 2147483648 else 0) + X % 2147483648 = X := by
    unfold yS
    by_cases h : 2147483648 ≤ X
    · rw [if_pos (decide_eq_true h)]; omega
    · rw [if_neg (by simp only [decide_eq_true_eq]; exact h)]; omega
  by_cases h : yE X = 0
  · have hm : yM X = yF X := by unfold yM; rw [if_pos h]
    have hp : yP X = -149 := by unfold yP; rw [if_pos h]; omega
    rw [hp, sg_low (yS X) h0 (by omega), sg_word, hm]
    rw [h, Nat.zero_mul, Nat.zero_add] at q2
    rw [← q2]; exact hs
  · have hm : yM X = 8388608 + yF X := by unfold yM; rw [if_neg h]
    have hp : yP X = (yE X : Int) - 150 := by unfold yP; rw [if_neg h]
    rw [hp, sg_norm (yS X) (by omega) (by omega) (by omega) (by omega), sg_word, hm]
    have e : ((yE X : Int) - 150 + 149).toNat * 8388608 + (8388608 + yF X) = X % 2147483648 := by omega
    rw [e]; exact hs
theorem y_top {X : Nat} (h0 : yM X ≠ 0) (s : Int) (hs : s = yP X) : max (((yM X).log2 : Int) + s - (24 : Nat) + 1) (-149) = s ∧ (yM X).log2 ≤ 23 := by
  have hF := yF_lt X
  have hE2 := yE_lt X
  by_cases h : yE X = 0
  · have hm : yM X = yF X := by unfold yM; rw [if_pos h]
    have hp : s = -149 := by rw [hs]; unfold yP; rw [if_pos h]; omega
    have hl : (yM X).log2 < 23 := (Nat.log2_lt h0).2 (by rw [hm, show (2 : Nat) ^ 23 = 8388608 by decide]; exact hF)
    omega
  · have hm : yM X = 8388608 + yF X := by unfold yM; rw [if_neg h]
    have hl : (yM X).log2 = 23 := log2_23 (by omega) (yM_lt X)
    have hp : -149 ≤ s := by rw [hs]; exact yP_lo X
    omega
/-- Rounding a number that the format has. -/
theorem g_back {size : Nat} {low top : Int} {m d : Nat} {e a : Int} {s : Bool} (h0 : m ≠ 0) (hd : d ≠ 0) (hT : max ((m.log2 : Int) + e - size + 1) low = e) (ht : (m.log2 : Int) + e < top) (h : a * ((2 ^ (-e).toNat : Nat) : Int) = zi s (m * 2 ^ e.toNat) * (d : Int)) : srnd size low top a d 2 = sf s (fl m e) := by
  have p1 : 0 < 2 ^ (-e).toNat := Nat.pow_pos (by omega)
  have p2 : 0 < 2 ^ e.toNat := Nat.pow_pos (by omega)
  have hab : ab a * 2 ^ (-e).toNat = m * (d * 2 ^ e.toNat) := by
    have h1 := congrArg Int.natAbs h
    rw [Int.natAbs_mul, Int.natAbs_mul, Int.natAbs_natCast, Int.natAbs_natCast] at h1
    have h2 : (zi s (m * 2 ^ e.toNat)).natAbs = m * 2 ^ e.toNat := zi_ab _ _
    rw [h2] at h1
    show a.natAbs * _ = _
    rw [h1, Nat.mul_assoc, Nat.mul_comm d]
  have hpos : 0 < m * (d * 2 ^ e.toNat) := Nat.mul_pos (by omega) (Nat.mul_pos (by omega) p2)
  have ha2 : ab a ≠ 0 := fun e0 => by rw [e0, Nat.zero_mul] at hab; omega
  have ha : a ≠ 0 := fun e0 => ha2 (by rw [e0]; rfl)
  have hs : sn a = s := by
    have q1 : sn (a * ((2 ^ (-e).toNat : Nat) : Int)) = sn a := by
      unfold sn; rw [Bool.eq_iff_iff, decide_eq_true_eq, decide_eq_true_eq]
      generalize 2 ^ (-e).toNat = t at *
      constructor
      · intro q; exact Int.not_le.1 (fun r => absurd q (Int.not_lt.2 (Int.mul_nonneg r (by omega))))
      · intro q; exact Int.mul_neg_of_neg_of_pos q (by omega)
    have q2 : sn (zi s (m * 2 ^ e.toNat) * (d : Int)) = s := by
      rw [zi_mul]; exact zi_sn _ (Nat.mul_ne_zero (Nat.mul_ne_zero h0 (by omega)) hd)
    rw [← q1, h, q2]
  have hq : qq (ab a) d e = m := by
    unfold qq un2; rw [hab]; exact Nat.mul_div_cancel _ (Nat.mul_pos (by omega) p2)
  have hr : rr (ab a) d e = 0 := by
    unfold rr un2; rw [hab]; exact Nat.mul_mod_left _ _
  have hl := lgq_of ha2 hd (T := e) (by rw [hq]; exact h0)
  rw [hq] at hl
  have hT2 : lst size low (ab a) d = e := by unfold lst; rw [hl]; exact hT
  have hi : incN size low (ab a) d = false := by
    unfold incN; rw [hT2, hr]
    have := un2_pos hd e
    generalize un2 d e = u at *
    rw [decide_eq_false (show ¬ u < 2 * 0 by omega), decide_eq_false (show ¬ u = 2 * 0 by omega)]; rfl
  rw [srnd_near ha, hi, hs]
  have hR : rnd size low top (ab a) d false = fl m e := by
    unfold rnd; rw [hT2, hq]
    rw [show (false : Bool).toNat = 0 from rfl, Nat.add_zero, if_neg h0, if_neg (by omega)]
  rw [hR]
theorem sgn_parts {s : Bool} {Z W : Nat} (h : Z = (if s = true then 9223372036854775808 else 0) + W) (hW : W < 9223372036854775808) : Z % 9223372036854775808 = W ∧ Z < 18446744073709551616 ∧ xS Z = s := by
  cases s
  · rw [if_neg (by decide), Nat.zero_add] at h
    subst h
    refine ⟨by omega, by omega, ?_⟩
    unfold xS; exact decide_eq_false (by omega)
  · rw [if_pos rfl] at h
    subst h
    refine ⟨by omega, by omega, ?_⟩
    unfold xS; exact decide_eq_true (by omega)
theorem w_fin {W : Nat} (h : W < 9218868437227405312) : xE W ≠ 2047 := by unfold xE; omega
/-- The float64 of a float32 that is a number. -/
theorem wide {X : Nat} (hX : X < 4294967296) (hE : yE X ≠ 255) : ∃ Z, floatToFloatBits .f32 X .f64 = some Z ∧ Z < 18446744073709551616 ∧ xE Z ≠ 2047 ∧ (yM X = 0 → xM Z = 0) ∧ (yM X ≠ 0 → Z = sf (yS X) (fl (yM X) (yP X)) ∧ xS Z = yS X ∧ xM Z ≠ 0 ∧ ∃ k : Nat, xM Z = yM X * 2 ^ k ∧ xP Z = yP X - k) := by
  have hr := read32_fin hX hE
  have hdk : FloatKind.f32.decode X = .number (yS X) (yM X) (yP X) := hr
  by_cases h0 : yM X = 0
  · have hw : double.nearest (yS X) (yM X) (yP X) = if yS X = true then 9223372036854775808 else 0 := by
      unfold Format.nearest; rw [if_pos h0]
      cases yS X
      · rw [word_pos]; rfl
      · rw [word_neg]; rfl
    refine ⟨if yS X = true then 9223372036854775808 else 0, ?_, by split <;> omega, by split <;> decide, fun _ => by split <;> rfl, fun h => absurd h0 h⟩
    unfold floatToFloatBits
    rw [if_neg (by decide), hdk]
    show (if (Ieee.double.read (Ieee.double.nearest (yS X) (yM X) (yP X))).isInfinity = true then none else some (Ieee.double.nearest (yS X) (yM X) (yP X))) = _
    rw [hw]
    cases yS X <;> rfl
  · have hm := yM_lt X
    have hpl := yP_lo X
    have hph := yP_fin hE
    have hl : (yM X).log2 < 24 := (Nat.log2_lt h0).2 (by rw [show (2 : Nat) ^ 24 = 16777216 by decide]; exact hm)
    generalize yM X = m at *
    generalize yP X = e at *
    generalize yS X = s at *
    obtain ⟨k, hk⟩ : ∃ k, k = 52 - m.log2 := ⟨_, rfl⟩
    obtain ⟨M, hM⟩ : ∃ M, M = m * 2 ^ k := ⟨_, rfl⟩
    have a := log2_mul_pow h0 k
    have hz : M ≠ 0 := by rw [hM]; exact Nat.mul_ne_zero h0 (by have : 0 < 2 ^ k := Nat.pow_pos (by omega); omega)
    rw [← hM] at a
    have b1 := Nat.log2_self_le hz
    have b2 := (Nat.log2_lt hz).1 (show _ < 53 by omega)
    rw [a, show m.log2 + k = 52 by omega, show (2 : Nat) ^ 52 = 4503599627370496 by decide] at b1
    rw [show (2 : Nat) ^ 53 = 9007199254740992 by decide] at b2
    obtain ⟨t, ht⟩ : ∃ t : Nat, e - k = (t : Int) - 1074 := ⟨(e - k + 1074).toNat, by omega⟩
    have htb : t ≤ 2045 := by omega
    have s1 := nearest_shift Ieee.double false h0 k (e - k)
    rw [← hM, show e - k + (k : Int) = e by omega, ht] at s1
    have n1 := fl_w hz b2 (.inr b1) htb
    have n2 : fl m e = t * 4503599627370496 + M := by
      unfold fl at n1 ⊢
      rw [← s1, n1]
    have e9 : t * 4503599627370496 + M < 9223372036854775808 := by omega
    have hne : fl m e ≠ 0 := by rw [n2]; omega
    have nr : double.nearest s m e = sf s (fl m e) := by
      have h1 : double.nearest s m e = double.word s (double.nearest false m e) := by
        unfold Format.nearest; rw [if_neg h0, if_neg h0, word_pos]; rfl
      have h2 : double.nearest false m e = fl m e := rfl
      rw [h1, h2]
      cases s
      · rw [word_pos, sf_false]
      · rw [word_neg, sf_true hne, neg_word (by rw [n2]; exact e9)]
    have hZ : sf s (fl m e) = (if s = true then 9223372036854775808 else 0) + (t * 4503599627370496 + M) := by
      cases s
      · rw [sf_false, n2, if_neg (by decide), Nat.zero_add]
      · rw [sf_true hne, neg_word (by rw [n2]; exact e9), n2, if_pos rfl]
    obtain ⟨Z, hZZ⟩ : ∃ Z, Z = sf s (fl m e) := ⟨_, rfl⟩
    obtain ⟨hmod, hlt, hSS⟩ := sgn_parts (hZZ.trans hZ) e9
    obtain ⟨w1, w2, w3⟩ := w_parts b2 (.inr b1) htb
    obtain ⟨p1, p2, p3⟩ := abs_parts Z
    rw [hmod] at p1 p2
    have hEZ : xE Z ≠ 2047 := by rw [← p1]; exact w_fin w3
    have hMZ : xM Z = M := by rw [← w1]; unfold xM; rw [p1, p2]
    have hPZ : xP Z = e - k := by rw [ht, ← w2]; unfold xP; rw [p1]
    refine ⟨Z, ?_, hlt, hEZ, fun h => absurd h h0, fun _ => ⟨hZZ, hSS, by rw [hMZ]; exact hz, k, by rw [hMZ, hM], hPZ⟩⟩
    unfold floatToFloatBits
    rw [if_neg (by decide), hdk]
    show (if (Ieee.double.read (Ieee.double.nearest s m e)).isInfinity = true then none else some (Ieee.double.nearest s m e)) = _
    rw [nr, ← hZZ, read_fin hlt hEZ]
    rfl
end Fl
end Go.Proofs.YtgpmlhpgdalheaaGreat

namespace Go.Proofs.YtgpmlhpgdalheaaGreat
open Go.RowKit Pl Fl
set_option linter.unusedVariables false
set_option linter.unusedSimpArgs false
namespace Fl
open Ieee
/-- What a conversion of the float32 X to float64 gives: a word and the world behind it. -/
def Wide (X : Nat) (F : World → Nat) (G : World → World) : Prop :=
  (∀ w, (Go.Conv.floatToFloat .f32 X .f64).run Tryz.prog w = .ok (.float .f64 (F w)) (G w)) ∧ (∀ w, F w < 18446744073709551616) ∧ (∀ w, Below w.heap.size w (G w)) ∧ (yE X = 255 → ∀ w, xE (F w) = 2047) ∧ (yE X ≠ 255 → ∃ Z, floatToFloatBits .f32 X .f64 = some Z ∧ (∀ w, F w = Z) ∧ ∀ w, G w = w)
theorem wide_any {X : Nat} (hX : X < 4294967296) : ∃ F G, Wide X F G := by
  by_cases hE : yE X = 255
  · by_cases hF : yF X = 0
    · have hr : FloatKind.f32.decode X = .infinity (yS X) := read32_inf hX hE hF
      have h : floatToFloatBits .f32 X .f64 = some (double.word (yS X) 9218868437227405312) := by
        unfold floatToFloatBits; rw [if_neg (by decide), hr]; rfl
      refine ⟨fun _ => double.word (yS X) 9218868437227405312, fun w => w, fun w => run_floatToFloat w h, fun w => ?_, fun w => Below.refl _ _, fun _ w => ?_, fun e => absurd hE e⟩
      · show double.word (yS X) 9218868437227405312 < _
        cases yS X
        · rw [word_pos]; decide
        · rw [word_neg]; decide
      · show xE (double.word (yS X) 9218868437227405312) = 2047
        cases yS X
        · rw [word_pos]; rfl
        · rw [word_neg]; rfl
    · obtain ⟨n, hn⟩ := read32_nan hX hE hF
      have hr : FloatKind.f32.decode X = .nan (yS X) n := hn
      refine ⟨fun w => Question.cut (.nanConv .f64 X) (w.tape w.drawn (.nanConv .f64 X)), fun w => w.drew, fun w => ?_, fun w => ?_, fun w => ⟨rfl, rfl, rfl, Nat.le_refl _, fun _ _ => rfl⟩, fun _ w => ?_, fun e => absurd hE e⟩
      · unfold Go.Conv.floatToFloat
        rw [if_neg (by decide), hr]
        rfl
      · show (w.tape w.drawn (.nanConv .f64 X) % 2) * 2 ^ 63 + 0x7ff0000000000000 + 1 + (w.tape w.drawn (.nanConv .f64 X) / 2) % (2 ^ 52 - 1) < _
        rw [show (2 : Nat) ^ 63 = 9223372036854775808 by decide, show (2 : Nat) ^ 52 - 1 = 4503599627370495 by decide]
        omega
      · show xE ((w.tape w.drawn (.nanConv .f64 X) % 2) * 2 ^ 63 + 0x7ff0000000000000 + 1 + (w.tape w.drawn (.nanConv .f64 X) / 2) % (2 ^ 52 - 1)) = 2047
        rw [show (2 : Nat) ^ 63 = 9223372036854775808 by decide, show (2 : Nat) ^ 52 - 1 = 4503599627370495 by decide]
        have a1 : w.tape w.drawn (.nanConv .f64 X) % 2 < 2 := Nat.mod_lt _ (by decide)
        have a2 : w.tape w.drawn (.nanConv .f64 X) / 2 % 4503599627370495 < 4503599627370495 := Nat.mod_lt _ (by decide)
        generalize w.tape w.drawn (.nanConv .f64 X) % 2 = s at *
        generalize w.tape w.drawn (.nanConv .f64 X) / 2 % 4503599627370495 = r at *
        clear hF hE
        have e : s * 9223372036854775808 + 9218868437227405312 + 1 + r = (s * 2048 + 2047) * 4503599627370496 + (1 + r) := by omega
        unfold xE
        rw [e, Nat.mul_comm, Nat.mul_add_div (by decide), Nat.div_eq_of_lt (show 1 + r < 4503599627370496 by omega)]
        omega
  · obtain ⟨Z, h, hZ, _⟩ := wide hX hE
    exact ⟨fun _ => Z, fun w => w, fun w => run_floatToFloat w h, fun _ => hZ, fun w => Below.refl _ _, fun e => absurd e hE, fun _ => ⟨Z, h, fun _ => rfl, fun _ => rfl⟩⟩
theorem conv_float {X : Nat} {F : World → Nat} {G : World → World} (h : Wide X F G) (w : World) : (convert 47 44 (.float .f32 X)).run Tryz.prog w = .ok (.float .f64 (F w)) (G w) := by
  simp [convert, run_underlying (t := 47) Tryz.underlying47, run_underlying Tryz.underlying44, h.1]
theorem conv_cx {X Y : Nat} {F F' : World → Nat} {G G' : World → World} (h : Wide X F G) (k : Wide Y F' G') (w : World) : (convert 40 37 (.complex .f32 X Y)).run Tryz.prog w = .ok (.complex .f64 (F w) (F' (G w))) (G' (G w)) := by
  simp [convert, run_underlying (t := 40) Tryz.underlying40, run_underlying Tryz.underlying37, Go.Conv.complexToComplex, h.1, k.1]
/-- Rounding to float32's format the value of a float32. -/
theorem y_near {X Z d : Nat} {a : Int} (hX : X < 4294967296) (hE : yE X ≠ 255) (hZ : floatToFloatBits .f32 X .f64 = some Z) (hd : d ≠ 0) (h : a * ((2 ^ (-(xP Z)).toNat : Nat) : Int) = zi (xS Z) (xM Z * 2 ^ (xP Z).toNat) * (d : Int)) :
    to32 (srnd 24 (-149) 128 a d 2) = if yM X = 0 then 0 else X := by
  obtain ⟨Z', hZ', hlt, hEZ, hz, hn⟩ := wide hX hE
  rw [hZ] at hZ'
  obtain rfl : Z = Z' := Option.some.inj hZ'
  by_cases h0 : yM X = 0
  · rw [if_pos h0]
    have p1 : 0 < 2 ^ (-(xP Z)).toNat := Nat.pow_pos (by omega)
    rw [hz h0, Nat.zero_mul, zi_zero, Int.zero_mul] at h
    have ha : a = 0 := by
      rcases Int.mul_eq_zero.1 h with h1 | h1
      · exact h1
      · exfalso; generalize 2 ^ (-(xP Z)).toNat = t at *; omega
    rw [show srnd 24 (-149) 128 a d 2 = 0 from if_pos ha]
    unfold to32; rw [conv32_zero]; rfl
  · rw [if_neg h0]
    obtain ⟨hsf, hs, hm, k, e1, e2⟩ := hn h0
    rw [hs, e1, e2] at h
    have hm2 := yM_lt X
    have hpl := yP_lo X
    have hph := yP_fin hE
    obtain ⟨ht, hl⟩ := y_top h0 (yP X) rfl
    have hv : a * ((2 ^ (-(yP X)).toNat : Nat) : Int) = zi (yS X) (yM X * 2 ^ (yP X).toNat) * (d : Int) := by
      have c : (0 : Int) < ((2 ^ (k + (yP X - k).toNat) : Nat) : Int) := by
        have : 0 < 2 ^ (k + (yP X - k).toNat) := Nat.pow_pos (by omega)
        omega
      apply Int.eq_of_mul_eq_mul_right (Int.ne_of_gt c)
      have h2 := congrArg (fun z : Int => z * ((2 ^ (yP X).toNat : Nat) : Int)) h
      have l1 : a * ((2 ^ (-(yP X - k)).toNat : Nat) : Int) * ((2 ^ (yP X).toNat : Nat) : Int) = a * ((2 ^ (-(yP X)).toNat : Nat) : Int) * ((2 ^ (k + (yP X - k).toNat) : Nat) : Int) := by
        rw [Int.mul_assoc, Int.mul_assoc, ← Int.natCast_mul, ← Int.natCast_mul, ← Nat.pow_add, ← Nat.pow_add]
        congr 3; omega
      have l2 : zi (yS X) (yM X * 2 ^ k * 2 ^ (yP X - k).toNat) * (d : Int) * ((2 ^ (yP X).toNat : Nat) : Int) = zi (yS X) (yM X * 2 ^ (yP X).toNat) * (d : Int) * ((2 ^ (k + (yP X - k).toNat) : Nat) : Int) := by
        rw [zi_mul, zi_mul, zi_mul, zi_mul]
        congr 1
        rw [Nat.pow_add]
        generalize 2 ^ k = p
        generalize 2 ^ (yP X - k).toNat = r
        generalize 2 ^ (yP X).toNat = u
        simp only [Nat.mul_assoc, Nat.mul_comm, Nat.mul_left_comm]
      rw [← l1, ← l2]; exact h2
    rw [g_back h0 hd ht (by omega) hv]
    unfold to32
    rw [conv32 (yS X) h0 (by omega) hpl (by omega), y_word hX hE h0]; rfl
theorem ord32 {X : Nat} (hX : X < 4294967296) (hE : yE X ≠ 255) : (FloatKind.f32.format.order (if yM X = 0 then 0 else X) X == some Ordering.eq) = true := by
  show (Ieee.single.order (if yM X = 0 then 0 else X) X == some Ordering.eq) = true
  by_cases h : yM X = 0
  · rw [if_pos h]
    unfold Format.order Datum.order
    rw [read32_fin hX hE, read32_fin (X := 0) (by omega) (by decide), h]
    simp only [signed_zi, Nat.zero_mul, zi_zero, show yM 0 = 0 from rfl]
    rfl
  · rw [if_neg h]
    unfold Format.order Datum.order
    rw [read32_fin hX hE]
    simp only []
    rw [Int.compare_eq_eq.2 rfl]; rfl
end Fl
end Go.Proofs.YtgpmlhpgdalheaaGreat

namespace Go.Proofs.YtgpmlhpgdalheaaGreat
open Go.RowKit Pl Fl
set_option linter.unusedVariables false
set_option linter.unusedSimpArgs false

set_option maxHeartbeats 4000000 in
theorem complex64_fin (X Y Z1 Z2 : Nat) (h1 : Z1 < 18446744073709551616) (h2 : Z2 < 18446744073709551616) (hE : xE Z1 ≠ 2047) (hF : xE Z2 ≠ 2047) (CV : ∀ w, (convert 40 37 (.complex .f32 X Y)).run Tryz.prog w = .ok (.complex .f64 Z1 Z2) w) (w : World) :
    Calls Tryz.prog 65 #[.complex .f32 X Y] w (RetNumE w 0 (cx Z1 Z2)) := by
  have C := Lib.hid (fun w => complex_fin Z1 Z2 h1 h2 hE hF w)
  obtain ⟨q, hq⟩ : ∃ q, q = cx Z1 Z2 := ⟨_, rfl⟩
  rw [← hq] at C ⊢
  clear hq h1 h2 hE hF
  go_enter Tryz.func65, Tryz.ntmps65
  go_wp2_with fail
  obtain ⟨W, hW⟩ : ∃ W : World, W = (w.alloc (.cells #[.bool false, .slice none 0 0, .bool false, .slice none 0 0, .slice none 0 0] 30)) := ⟨_, rfl⟩
  have r0 : W.cell? ⟨w.heap.size, 0, none⟩ = some (.bool false) := by subst hW; go_simp
  have f0 : W.frozen? ⟨w.heap.size, 0, none⟩ = false := by subst hW; go_simp
  have r1 : W.cell? ⟨w.heap.size, 1, none⟩ = some (.slice none 0 0) := by subst hW; go_simp
  have f1 : W.frozen? ⟨w.heap.size, 1, none⟩ = false := by subst hW; go_simp
  have r2 : W.cell? ⟨w.heap.size, 2, none⟩ = some (.bool false) := by subst hW; go_simp
  have f2 : W.frozen? ⟨w.heap.size, 2, none⟩ = false := by subst hW; go_simp
  have r3 : W.cell? ⟨w.heap.size, 3, none⟩ = some (.slice none 0 0) := by subst hW; go_simp
  have f3 : W.frozen? ⟨w.heap.size, 3, none⟩ = false := by subst hW; go_simp
  have r4 : W.cell? ⟨w.heap.size, 4, none⟩ = some (.slice none 0 0) := by subst hW; go_simp
  have f4 : W.frozen? ⟨w.heap.size, 4, none⟩ = false := by subst hW; go_simp
  have HW : Below w.heap.size w W := by subst hW; exact ((Below.refl w.heap.size w).alloc (Nat.le_refl _) _)
  have l0 : w.heap.size < W.heap.size := by subst hW; simp
  rw [← hW]
  clear hW
  replace HW := Lib.hid HW
  refine (C.out _).mono ?_
  rintro e w1 ⟨Y1, Y2, Y3, rfl, hz, hb1⟩
  replace r0 := keepc hb1 r0 l0
  replace f0 := keepf hb1 f0 l0
  replace r1 := keepc hb1 r1 l0
  replace f1 := keepf hb1 f1 l0
  replace r2 := keepc hb1 r2 l0
  replace f2 := keepf hb1 f2 l0
  replace r3 := keepc hb1 r3 l0
  replace f3 := keepf hb1 f3 l0
  replace r4 := keepc hb1 r4 l0
  replace f4 := keepf hb1 f4 l0
  replace l0 := Nat.lt_of_lt_of_le l0 hb1.size
  replace HW := Lib.hid (hstep HW hb1)
  clear hb1
  go_wp2_with fail
  exact bodyPost_ret (v := .tuple #[.agg #[.bool (sn (na q)), .slice Y1 (ln (ab (na q))) (ln (ab (na q))), .bool (sn (nb q)), .slice Y2 (ln (ab (nb q))) (ln (ab (nb q))), .slice Y3 (ln (un q)) (ln (un q))], .int .i64 0]) (by simp [results, Tryz.results65, go_sem, r0, r1, r2, r3, r4, f0, f1, f2, f3, f4]) rfl (retNumE_fin HW hz (by omega) r0)

set_option maxHeartbeats 4000000 in
theorem complex64_bad (X Y : Nat) (A B : World → Nat) (D : World → World) (hA : ∀ w, A w < 18446744073709551616) (hB : ∀ w, B w < 18446744073709551616) (hD : ∀ w, Below w.heap.size w (D w)) (hE : ∀ w, xE (A w) = 2047 ∨ xE (B w) = 2047) (CV : ∀ w, (convert 40 37 (.complex .f32 X Y)).run Tryz.prog w = .ok (.complex .f64 (A w) (B w)) (D w)) (w : World) :
    Calls Tryz.prog 65 #[.complex .f32 X Y] w (RetNumE w 1 Cx.zero) := by
  have C := Lib.hid (fun v w => complex_bad (A v) (B v) (hA v) (hB v) (hE v) w)
  have HD := Lib.hid hD
  obtain ⟨q, hq⟩ : ∃ q, q = Cx.zero := ⟨_, rfl⟩
  rw [← hq] at C ⊢
  clear hq hA hB hD hE
  go_enter Tryz.func65, Tryz.ntmps65
  go_wp2_with fail
  obtain ⟨W, hW⟩ : ∃ W : World, W = (w.alloc (.cells #[.bool false, .slice none 0 0, .bool false, .slice none 0 0, .slice none 0 0] 30)) := ⟨_, rfl⟩
  have r0 : W.cell? ⟨w.heap.size, 0, none⟩ = some (.bool false) := by subst hW; go_simp
  have f0 : W.frozen? ⟨w.heap.size, 0, none⟩ = false := by subst hW; go_simp
  have r1 : W.cell? ⟨w.heap.size, 1, none⟩ = some (.slice none 0 0) := by subst hW; go_simp
  have f1 : W.frozen? ⟨w.heap.size, 1, none⟩ = false := by subst hW; go_simp
  have r2 : W.cell? ⟨w.heap.size, 2, none⟩ = some (.bool false) := by subst hW; go_simp
  have f2 : W.frozen? ⟨w.heap.size, 2, none⟩ = false := by subst hW; go_simp
  have r3 : W.cell? ⟨w.heap.size, 3, none⟩ = some (.slice none 0 0) := by subst hW; go_simp
  have f3 : W.frozen? ⟨w.heap.size, 3, none⟩ = false := by subst hW; go_simp
  have r4 : W.cell? ⟨w.heap.size, 4, none⟩ = some (.slice none 0 0) := by subst hW; go_simp
  have f4 : W.frozen? ⟨w.heap.size, 4, none⟩ = false := by subst hW; go_simp
  have HW : Below w.heap.size w W := by subst hW; exact ((Below.refl w.heap.size w).alloc (Nat.le_refl _) _)
  have l0 : w.heap.size < W.heap.size := by subst hW; simp
  rw [← hW]
  clear hW
  replace HW := Lib.hid HW
  refine (C.out _ _).mono ?_
  rintro e w1 ⟨Y1, Y2, Y3, rfl, hz, hb1⟩
  replace hb1 := onto (HD.out _) hb1
  replace r0 := keepc hb1 r0 l0
  replace f0 := keepf hb1 f0 l0
  replace r1 := keepc hb1 r1 l0
  replace f1 := keepf hb1 f1 l0
  replace r2 := keepc hb1 r2 l0
  replace f2 := keepf hb1 f2 l0
  replace r3 := keepc hb1 r3 l0
  replace f3 := keepf hb1 f3 l0
  replace r4 := keepc hb1 r4 l0
  replace f4 := keepf hb1 f4 l0
  replace l0 := Nat.lt_of_lt_of_le l0 hb1.size
  replace HW := Lib.hid (hstep HW hb1)
  clear hb1
  go_wp2_with fail
  exact bodyPost_ret (v := .tuple #[.agg #[.bool (sn (na q)), .slice Y1 (ln (ab (na q))) (ln (ab (na q))), .bool (sn (nb q)), .slice Y2 (ln (ab (nb q))) (ln (ab (nb q))), .slice Y3 (ln (un q)) (ln (un q))], .int .i64 1]) (by simp [results, Tryz.results65, go_sem, r0, r1, r2, r3, r4, f0, f1, f2, f3, f4]) rfl (retNumE_fin HW hz (by omega) r0)

set_option maxHeartbeats 4000000 in
theorem rcomplex64_fin (X Y Z1 Z2 : Nat) (h1 : Z1 < 18446744073709551616) (h2 : Z2 < 18446744073709551616) (hE : xE Z1 ≠ 2047) (hF : xE Z2 ≠ 2047) (CV1 : ∀ w, (convert 47 44 (.float .f32 X)).run Tryz.prog w = .ok (.float .f64 Z1) w) (CV2 : ∀ w, (convert 47 44 (.float .f32 Y)).run Tryz.prog w = .ok (.float .f64 Z2) w) (w : World) :
    Calls Tryz.prog 66 #[.complex .f32 X Y] w (RetNumCE w 0 (cx Z1 Z2)) := by
  have C := Lib.hid (fun w => rcomplex_fin Z1 Z2 h1 h2 hE hF w)
  obtain ⟨q, hq⟩ : ∃ q, q = cx Z1 Z2 := ⟨_, rfl⟩
  rw [← hq] at C ⊢
  clear hq h1 h2 hE hF
  go_enter Tryz.func66, Tryz.ntmps66
  go_wp2_with fail
  obtain ⟨W, hW⟩ : ∃ W : World, W = (w.alloc (.cells #[.bool false, .slice none 0 0, .bool false, .slice none 0 0, .slice none 0 0] 34)) := ⟨_, rfl⟩
  have r0 : W.cell? ⟨w.heap.size, 0, none⟩ = some (.bool false) := by subst hW; go_simp
  have f0 : W.frozen? ⟨w.heap.size, 0, none⟩ = false := by subst hW; go_simp
  have r1 : W.cell? ⟨w.heap.size, 1, none⟩ = some (.slice none 0 0) := by subst hW; go_simp
  have f1 : W.frozen? ⟨w.heap.size, 1, none⟩ = false := by subst hW; go_simp
  have r2 : W.cell? ⟨w.heap.size, 2, none⟩ = some (.bool false) := by subst hW; go_simp
  have f2 : W.frozen? ⟨w.heap.size, 2, none⟩ = false := by subst hW; go_simp
  have r3 : W.cell? ⟨w.heap.size, 3, none⟩ = some (.slice none 0 0) := by subst hW; go_simp
  have f3 : W.frozen? ⟨w.heap.size, 3, none⟩ = false := by subst hW; go_simp
  have r4 : W.cell? ⟨w.heap.size, 4, none⟩ = some (.slice none 0 0) := by subst hW; go_simp
  have f4 : W.frozen? ⟨w.heap.size, 4, none⟩ = false := by subst hW; go_simp
  have HW : Below w.heap.size w W := by subst hW; exact ((Below.refl w.heap.size w).alloc (Nat.le_refl _) _)
  have l0 : w.heap.size < W.heap.size := by subst hW; simp
  rw [← hW]
  clear hW
  replace HW := Lib.hid HW
  refine (C.out _).mono ?_
  rintro e w1 ⟨Y1, Y2, Y3, cY1, cY2, cY3, rfl, hz, hb1⟩
  replace r0 := keepc hb1 r0 l0
  replace f0 := keepf hb1 f0 l0
  replace r1 := keepc hb1 r1 l0
  replace f1 := keepf hb1 f1 l0
  replace r2 := keepc hb1 r2 l0
  replace f2 := keepf hb1 f2 l0
  replace r3 := keepc hb1 r3 l0
  replace f3 := keepf hb1 f3 l0
  replace r4 := keepc hb1 r4 l0
  replace f4 := keepf hb1 f4 l0
  replace l0 := Nat.lt_of_lt_of_le l0 hb1.size
  replace HW := Lib.hid (hstep HW hb1)
  clear hb1
  go_wp2_with fail
  exact bodyPost_ret (v := .tuple #[.agg #[.bool (sn (na q)), .slice Y1 (ln (ab (na q))) cY1, .bool (sn (nb q)), .slice Y2 (ln (ab (nb q))) cY2, .slice Y3 (ln (nd q)) cY3], .int .i64 0]) (by simp [results, Tryz.results66, go_sem, r0, r1, r2, r3, r4, f0, f1, f2, f3, f4]) rfl (retNumCE_fin HW hz (by omega) r0)

set_option maxHeartbeats 4000000 in
theorem rcomplex64_bad (X Y : Nat) (F F' : World → Nat) (G G' : World → World) (hA : ∀ w, F w < 18446744073709551616) (hB : ∀ w, F' w < 18446744073709551616) (hD : ∀ w, Below w.heap.size w (G w)) (hD2 : ∀ w, Below w.heap.size w (G' w)) (hE : (∀ w, xE (F w) = 2047) ∨ ∀ w, xE (F' w) = 2047) (CV1 : ∀ w, (convert 47 44 (.float .f32 X)).run Tryz.prog w = .ok (.float .f64 (F w)) (G w)) (CV2 : ∀ w, (convert 47 44 (.float .f32 Y)).run Tryz.prog w = .ok (.float .f64 (F' w)) (G' w)) (w : World) :
    Calls Tryz.prog 66 #[.complex .f32 X Y] w (RetNumCE w 1 Cx.zero) := by
  have C := Lib.hid (fun v v' w => rcomplex_bad (F v) (F' v') (hA v) (hB v') (hE.imp (fun h => h v) (fun h => h v')) w)
  have HD := Lib.hid hD
  have HD2 := Lib.hid hD2
  obtain ⟨q, hq⟩ : ∃ q, q = Cx.zero := ⟨_, rfl⟩
  rw [← hq] at C ⊢
  clear hq hA hB hD hD2 hE
  go_enter Tryz.func66, Tryz.ntmps66
  go_wp2_with fail
  obtain ⟨W, hW⟩ : ∃ W : World, W = (w.alloc (.cells #[.bool false, .slice none 0 0, .bool false, .slice none 0 0, .slice none 0 0] 34)) := ⟨_, rfl⟩
  have r0 : W.cell? ⟨w.heap.size, 0, none⟩ = some (.bool false) := by subst hW; go_simp
  have f0 : W.frozen? ⟨w.heap.size, 0, none⟩ = false := by subst hW; go_simp
  have r1 : W.cell? ⟨w.heap.size, 1, none⟩ = some (.slice none 0 0) := by subst hW; go_simp
  have f1 : W.frozen? ⟨w.heap.size, 1, none⟩ = false := by subst hW; go_simp
  have r2 : W.cell? ⟨w.heap.size, 2, none⟩ = some (.bool false) := by subst hW; go_simp
  have f2 : W.frozen? ⟨w.heap.size, 2, none⟩ = false := by subst hW; go_simp
  have r3 : W.cell? ⟨w.heap.size, 3, none⟩ = some (.slice none 0 0) := by subst hW; go_simp
  have f3 : W.frozen? ⟨w.heap.size, 3, none⟩ = false := by subst hW; go_simp
  have r4 : W.cell? ⟨w.heap.size, 4, none⟩ = some (.slice none 0 0) := by subst hW; go_simp
  have f4 : W.frozen? ⟨w.heap.size, 4, none⟩ = false := by subst hW; go_simp
  have HW : Below w.heap.size w W := by subst hW; exact ((Below.refl w.heap.size w).alloc (Nat.le_refl _) _)
  have l0 : w.heap.size < W.heap.size := by subst hW; simp
  rw [← hW]
  clear hW
  replace HW := Lib.hid HW
  refine (C.out _ _ _).mono ?_
  rintro e w1 ⟨Y1, Y2, Y3, cY1, cY2, cY3, rfl, hz, hb1⟩
  replace hb1 := onto (HD.out _) (onto (HD2.out _) hb1)
  replace r0 := keepc hb1 r0 l0
  replace f0 := keepf hb1 f0 l0
  replace r1 := keepc hb1 r1 l0
  replace f1 := keepf hb1 f1 l0
  replace r2 := keepc hb1 r2 l0
  replace f2 := keepf hb1 f2 l0
  replace r3 := keepc hb1 r3 l0
  replace f3 := keepf hb1 f3 l0
  replace r4 := keepc hb1 r4 l0
  replace f4 := keepf hb1 f4 l0
  replace l0 := Nat.lt_of_lt_of_le l0 hb1.size
  replace HW := Lib.hid (hstep HW hb1)
  clear hb1
  go_wp2_with fail
  exact bodyPost_ret (v := .tuple #[.agg #[.bool (sn (na q)), .slice Y1 (ln (ab (na q))) cY1, .bool (sn (nb q)), .slice Y2 (ln (ab (nb q))) cY2, .slice Y3 (ln (nd q)) cY3], .int .i64 1]) (by simp [results, Tryz.results66, go_sem, r0, r1, r2, r3, r4, f0, f1, f2, f3, f4]) rfl (retNumCE_fin HW hz (by omega) r0)

theorem f32from (x : Nat) (w : World) : (callFunc 64 #[.int .u32 x]).run Tryz.prog w = .ok (.value (.float .f32 x)) w := by kernel_rfl

set_option maxRecDepth 100000 in
set_option maxHeartbeats 4000000 in
theorem floats32_fin (X Y V U : Nat) (q : Cx) (c1 : ∀ w, Calls Tryz.prog 65 #[.complex .f32 X Y] w (RetNumE w 0 q)) (c2 : ∀ w, Calls Tryz.prog 66 #[.complex .f32 X Y] w (RetNumCE w 0 q)) (zq : sz 80 q) (nr : to32 (srnd 24 (-149) 128 (na q) (nd q) 2) = V ∧ to32 (srnd 24 (-149) 128 (nb q) (nd q) 2) = U) (o1 : (FloatKind.f32.format.order V X == some Ordering.eq) = true) (o2 : (FloatKind.f32.format.order U Y == some Ordering.eq) = true) (w : World) :
    Calls Tryz.prog 7 #[.int .u32 (X : Nat), .int .u32 (Y : Nat)] w (RetBool w true) := by
  have g1 : ∀ w, (callFunc 64 #[.int .u32 (X : Nat)]).run Tryz.prog w = .ok (.value (.float .f32 X)) w := fun w => f32from X w
  have g2 : ∀ w, (callFunc 64 #[.int .u32 (Y : Nat)]).run Tryz.prog w = .ok (.value (.float .f32 Y)) w := fun w => f32from Y w
  have C1 := Lib.hid c1
  have C2 := Lib.hid c2
  have ZQ := Lib.hid zq
  have NR := Lib.hid nr
  clear c1 c2 zq nr
  go_enter Tryz.func7, Tryz.ntmps7
  go_wp2_with fail
  refine (C1.out _).mono ?_
  rintro e w1 ⟨A1, A2, A3, rfl, hx, hb1⟩
  have HW := Lib.hid hb1
  clear hb1
  go_upto_region 3 with fail
  obtain ⟨w2, hX⟩ : ∃ X : World, X = w1.alloc (.cells #[.bool (sn (na q)), .slice A1 (ln (ab (na q))) (ln (ab (na q))), .bool (sn (nb q)), .slice A2 (ln (ab (nb q))) (ln (ab (nb q))), .slice A3 (ln (un q)) (ln (un q))] 30) := ⟨_, rfl⟩
  rw [← hX]
  have hb : Below w1.heap.size w1 w2 := by rw [hX]; exact (Below.refl _ _).alloc (Nat.le_refl _) _
  have s0 : w2.cell? ⟨w1.heap.size, 0, none⟩ = some (.bool (sn (na q))) := by subst hX; go_simp
  have s1 : w2.cell? ⟨w1.heap.size, 1, none⟩ = some (.slice A1 (ln (ab (na q))) (ln (ab (na q)))) := by subst hX; go_simp
  have s2 : w2.cell? ⟨w1.heap.size, 2, none⟩ = some (.bool (sn (nb q))) := by subst hX; go_simp
  have s3 : w2.cell? ⟨w1.heap.size, 3, none⟩ = some (.slice A2 (ln (ab (nb q))) (ln (ab (nb q)))) := by subst hX; go_simp
  have s4 : w2.cell? ⟨w1.heap.size, 4, none⟩ = some (.slice A3 (ln (un q)) (ln (un q))) := by subst hX; go_simp
  have l0 : w1.heap.size < w2.heap.size := by rw [hX]; simp
  clear hX
  obtain ⟨x0, hg⟩ : ∃ g, g = w1.heap.size := ⟨_, rfl⟩
  rw [← hg] at s0 s1 s2 s3 s4 l0
  rw [← hg]
  clear hg
  replace hx := hx.to hb
  replace HW := Lib.hid (hstep HW hb)
  clear hb
  go_wp2_with fail
  refine (C2.out _).mono ?_
  rintro e w3 ⟨B1, B2, B3, cB1, cB2, cB3, rfl, hy, hb⟩
  replace s0 := keepc hb s0 l0
  replace s1 := keepc hb s1 l0
  replace s2 := keepc hb s2 l0
  replace s3 := keepc hb s3 l0
  replace s4 := keepc hb s4 l0
  replace l0 := Nat.lt_of_lt_of_le l0 hb.size
  replace hx := hx.to hb
  replace HW := Lib.hid (hstep HW hb)
  clear hb
  go_upto_region 4 with fail
  obtain ⟨w4, hX⟩ : ∃ X : World, X = w3.alloc (.cells #[.bool (sn (na q)), .slice B1 (ln (ab (na q))) cB1, .bool (sn (nb q)), .slice B2 (ln (ab (nb q))) cB2, .slice B3 (ln (nd q)) cB3] 34) := ⟨_, rfl⟩
  rw [← hX]
  have hb : Below w3.heap.size w3 w4 := by rw [hX]; exact (Below.refl _ _).alloc (Nat.le_refl _) _
  have e0 : w4.cell? ⟨w3.heap.size, 0, none⟩ = some (.bool (sn (na q))) := by subst hX; go_simp
  have e1 : w4.cell? ⟨w3.heap.size, 1, none⟩ = some (.slice B1 (ln (ab (na q))) cB1) := by subst hX; go_simp
  have e2 : w4.cell? ⟨w3.heap.size, 2, none⟩ = some (.bool (sn (nb q))) := by subst hX; go_simp
  have e3 : w4.cell? ⟨w3.heap.size, 3, none⟩ = some (.slice B2 (ln (ab (nb q))) cB2) := by subst hX; go_simp
  have e4 : w4.cell? ⟨w3.heap.size, 4, none⟩ = some (.slice B3 (ln (nd q)) cB3) := by subst hX; go_simp
  have l1 : w3.heap.size < w4.heap.size := by rw [hX]; simp
  clear hX
  obtain ⟨y0, hg⟩ : ∃ g, g = w3.heap.size := ⟨_, rfl⟩
  rw [← hg] at e0 e1 e2 e3 e4 l1
  rw [← hg]
  clear hg
  replace s0 := keepc hb s0 l0
  replace s1 := keepc hb s1 l0
  replace s2 := keepc hb s2 l0
  replace s3 := keepc hb s3 l0
  replace s4 := keepc hb s4 l0
  replace l0 := Nat.lt_of_lt_of_le l0 hb.size
  replace hx := hx.to hb
  replace hy := hy.to hb
  replace HW := Lib.hid (hstep HW hb)
  clear hb
  go_wp2_with fail
  refine (is_true q A1 A2 A3 B1 B2 B3 cB1 cB2 cB3 _ (by exact hx) (by exact hy) (sz.mono ZQ.out (by omega))).mono ?_
  rintro e w5 ⟨rfl, hb⟩
  replace s0 := keepc hb s0 l0
  replace s1 := keepc hb s1 l0
  replace s2 := keepc hb s2 l0
  replace s3 := keepc hb s3 l0
  replace s4 := keepc hb s4 l0
  replace l0 := Nat.lt_of_lt_of_le l0 hb.size
  replace hx := hx.to hb
  replace hy := hy.to hb
  replace e0 := keepc hb e0 l1
  replace e1 := keepc hb e1 l1
  replace e2 := keepc hb e2 l1
  replace e3 := keepc hb e3 l1
  replace e4 := keepc hb e4 l1
  replace l1 := Nat.lt_of_lt_of_le l1 hb.size
  replace HW := Lib.hid (hstep HW hb)
  clear hb
  go_wp2_with fail
  refine (near64_any q A1 A2 A3 _ (by exact hx) (sz.mono ZQ.out (by omega))).mono ?_
  rintro e w6 ⟨rfl, hb⟩
  replace s0 := keepc hb s0 l0
  replace s1 := keepc hb s1 l0
  replace s2 := keepc hb s2 l0
  replace s3 := keepc hb s3 l0
  replace s4 := keepc hb s4 l0
  replace l0 := Nat.lt_of_lt_of_le l0 hb.size
  replace hx := hx.to hb
  replace hy := hy.to hb
  replace e0 := keepc hb e0 l1
  replace e1 := keepc hb e1 l1
  replace e2 := keepc hb e2 l1
  replace e3 := keepc hb e3 l1
  replace e4 := keepc hb e4 l1
  replace l1 := Nat.lt_of_lt_of_le l1 hb.size
  replace HW := Lib.hid (hstep HW hb)
  clear hb
  rw [NR.out.1, NR.out.2]
  clear NR
  go_wp2_with fail
  refine (awake_any _).mono ?_
  rintro e w9 ⟨rfl, hb⟩
  replace HW := Lib.hid (hstep HW hb)
  clear hb
  go_wp2_with fail
  exact bodyPost_ret (v := .bool true) (by simp [results, Tryz.results7, go_sem]) rfl ⟨rfl, HW.out⟩

set_option maxRecDepth 100000 in
set_option maxHeartbeats 4000000 in
theorem floats32_bad (X Y : Nat) (q : Cx) (c1 : ∀ w, Calls Tryz.prog 65 #[.complex .f32 X Y] w (RetNumE w 1 q)) (c2 : ∀ w, Calls Tryz.prog 66 #[.complex .f32 X Y] w (RetNumCE w 1 q)) (zq : sz 80 q) (w : World) :
    Calls Tryz.prog 7 #[.int .u32 (X : Nat), .int .u32 (Y : Nat)] w (RetBool w true) := by
  have g1 : ∀ w, (callFunc 64 #[.int .u32 (X : Nat)]).run Tryz.prog w = .ok (.value (.float .f32 X)) w := fun w => f32from X w
  have g2 : ∀ w, (callFunc 64 #[.int .u32 (Y : Nat)]).run Tryz.prog w = .ok (.value (.float .f32 Y)) w := fun w => f32from Y w
  have C1 := Lib.hid c1
  have C2 := Lib.hid c2
  have ZQ := Lib.hid zq
  clear c1 c2 zq
  go_enter Tryz.func7, Tryz.ntmps7
  go_wp2_with fail
  refine (C1.out _).mono ?_
  rintro e w1 ⟨A1, A2, A3, rfl, hx, hb1⟩
  have HW := Lib.hid hb1
  clear hb1
  go_upto_region 3 with fail
  obtain ⟨w2, hX⟩ : ∃ X : World, X = w1.alloc (.cells #[.bool (sn (na q)), .slice A1 (ln (ab (na q))) (ln (ab (na q))), .bool (sn (nb q)), .slice A2 (ln (ab (nb q))) (ln (ab (nb q))), .slice A3 (ln (un q)) (ln (un q))] 30) := ⟨_, rfl⟩
  rw [← hX]
  have hb : Below w1.heap.size w1 w2 := by rw [hX]; exact (Below.refl _ _).alloc (Nat.le_refl _) _
  have s0 : w2.cell? ⟨w1.heap.size, 0, none⟩ = some (.bool (sn (na q))) := by subst hX; go_simp
  have s1 : w2.cell? ⟨w1.heap.size, 1, none⟩ = some (.slice A1 (ln (ab (na q))) (ln (ab (na q)))) := by subst hX; go_simp
  have s2 : w2.cell? ⟨w1.heap.size, 2, none⟩ = some (.bool (sn (nb q))) := by subst hX; go_simp
  have s3 : w2.cell? ⟨w1.heap.size, 3, none⟩ = some (.slice A2 (ln (ab (nb q))) (ln (ab (nb q)))) := by subst hX; go_simp
  have s4 : w2.cell? ⟨w1.heap.size, 4, none⟩ = some (.slice A3 (ln (un q)) (ln (un q))) := by subst hX; go_simp
  have l0 : w1.heap.size < w2.heap.size := by rw [hX]; simp
  clear hX
  obtain ⟨x0, hg⟩ : ∃ g, g = w1.heap.size := ⟨_, rfl⟩
  rw [← hg] at s0 s1 s2 s3 s4 l0
  rw [← hg]
  clear hg
  replace hx := hx.to hb
  replace HW := Lib.hid (hstep HW hb)
  clear hb
  go_wp2_with fail
  refine (C2.out _).mono ?_
  rintro e w3 ⟨B1, B2, B3, cB1, cB2, cB3, rfl, hy, hb⟩
  replace s0 := keepc hb s0 l0
  replace s1 := keepc hb s1 l0
  replace s2 := keepc hb s2 l0
  replace s3 := keepc hb s3 l0
  replace s4 := keepc hb s4 l0
  replace l0 := Nat.lt_of_lt_of_le l0 hb.size
  replace hx := hx.to hb
  replace HW := Lib.hid (hstep HW hb)
  clear hb
  go_upto_region 4 with fail
  obtain ⟨w4, hX⟩ : ∃ X : World, X = w3.alloc (.cells #[.bool (sn (na q)), .slice B1 (ln (ab (na q))) cB1, .bool (sn (nb q)), .slice B2 (ln (ab (nb q))) cB2, .slice B3 (ln (nd q)) cB3] 34) := ⟨_, rfl⟩
  rw [← hX]
  have hb : Below w3.heap.size w3 w4 := by rw [hX]; exact (Below.refl _ _).alloc (Nat.le_refl _) _
  have e0 : w4.cell? ⟨w3.heap.size, 0, none⟩ = some (.bool (sn (na q))) := by subst hX; go_simp
  have e1 : w4.cell? ⟨w3.heap.size, 1, none⟩ = some (.slice B1 (ln (ab (na q))) cB1) := by subst hX; go_simp
  have e2 : w4.cell? ⟨w3.heap.size, 2, none⟩ = some (.bool (sn (nb q))) := by subst hX; go_simp
  have e3 : w4.cell? ⟨w3.heap.size, 3, none⟩ = some (.slice B2 (ln (ab (nb q))) cB2) := by subst hX; go_simp
  have e4 : w4.cell? ⟨w3.heap.size, 4, none⟩ = some (.slice B3 (ln (nd q)) cB3) := by subst hX; go_simp
  have l1 : w3.heap.size < w4.heap.size := by rw [hX]; simp
  clear hX
  obtain ⟨y0, hg⟩ : ∃ g, g = w3.heap.size := ⟨_, rfl⟩
  rw [← hg] at e0 e1 e2 e3 e4 l1
  rw [← hg]
  clear hg
  replace s0 := keepc hb s0 l0
  replace s1 := keepc hb s1 l0
  replace s2 := keepc hb s2 l0
  replace s3 := keepc hb s3 l0
  replace s4 := keepc hb s4 l0
  replace l0 := Nat.lt_of_lt_of_le l0 hb.size
  replace hx := hx.to hb
  replace hy := hy.to hb
  replace HW := Lib.hid (hstep HW hb)
  clear hb
  go_wp2_with fail
  refine (is_true q A1 A2 A3 B1 B2 B3 cB1 cB2 cB3 _ (by exact hx) (by exact hy) (sz.mono ZQ.out (by omega))).mono ?_
  rintro e w5 ⟨rfl, hb⟩
  replace s0 := keepc hb s0 l0
  replace s1 := keepc hb s1 l0
  replace s2 := keepc hb s2 l0
  replace s3 := keepc hb s3 l0
  replace s4 := keepc hb s4 l0
  replace l0 := Nat.lt_of_lt_of_le l0 hb.size
  replace hx := hx.to hb
  replace hy := hy.to hb
  replace e0 := keepc hb e0 l1
  replace e1 := keepc hb e1 l1
  replace e2 := keepc hb e2 l1
  replace e3 := keepc hb e3 l1
  replace e4 := keepc hb e4 l1
  replace l1 := Nat.lt_of_lt_of_le l1 hb.size
  replace HW := Lib.hid (hstep HW hb)
  clear hb
  go_wp2_with fail
  refine (awake_any _).mono ?_
  rintro e w9 ⟨rfl, hb⟩
  replace HW := Lib.hid (hstep HW hb)
  clear hb
  go_wp2_with fail
  exact bodyPost_ret (v := .bool true) (by simp [results, Tryz.results7, go_sem]) rfl ⟨rfl, HW.out⟩

/-- THE WALK: for every two words the law answers true. -/
theorem numFloats32_walk (X Y : Nat) (hX : X < 4294967296) (hY : Y < 4294967296) (w : World) : Calls Tryz.prog 7 #[.int .u32 (X : Nat), .int .u32 (Y : Nat)] w (RetBool w true) := by
  obtain ⟨F, G, k1⟩ := wide_any hX
  obtain ⟨F', G', k2⟩ := wide_any hY
  by_cases h : yE X = 255 ∨ yE Y = 255
  · refine floats32_bad X Y Cx.zero (fun w => complex64_bad X Y F (fun w => F' (G w)) (fun w => G' (G w)) k1.2.1 (fun w => k2.2.1 _) (fun w => onto (k1.2.2.1 w) (k2.2.2.1 (G w))) (fun w => h.imp (fun e => k1.2.2.2.1 e w) (fun e => k2.2.2.2.1 e (G w))) (conv_cx k1 k2) w)
      (fun w => rcomplex64_bad X Y F F' G G' k1.2.1 k2.2.1 k1.2.2.1 k2.2.2.1 (h.imp (fun e => k1.2.2.2.1 e) (fun e => k2.2.2.2.1 e)) (conv_float k1) (conv_float k2) w) (sz_int0.mono (by omega)) w
  · have hE : yE X ≠ 255 := fun e => h (.inl e)
    have hF : yE Y ≠ 255 := fun e => h (.inr e)
    obtain ⟨Z1, e1, a1, b1⟩ := k1.2.2.2.2 hE
    obtain ⟨Z2, e2, a2, b2⟩ := k2.2.2.2.2 hF
    obtain ⟨Z, eZ, z1, z2, _⟩ := wide hX hE
    rw [e1] at eZ
    obtain rfl : Z1 = Z := Option.some.inj eZ
    obtain ⟨Z, eZ, z3, z4, _⟩ := wide hY hF
    rw [e2] at eZ
    obtain rfl : Z2 = Z := Option.some.inj eZ
    refine floats32_fin X Y _ _ (cx Z1 Z2) (fun w => complex64_fin X Y Z1 Z2 z1 z3 z2 z4 (fun w => ?_) w) (fun w => rcomplex64_fin X Y Z1 Z2 z1 z3 z2 z4 (fun w => ?_) (fun w => ?_) w) (cx_sz Z1 Z2) ⟨y_near hX hE e1 (nd_ne0 _) (x_re rfl), y_near hY hF e2 (nd_ne0 _) (x_im rfl)⟩ (ord32 hX hE) (ord32 hY hF) w
    · have := conv_cx k1 k2 w; rw [a1, a2, b2, b1] at this; exact this
    · have := conv_float k1 w; rw [a1, b1] at this; exact this
    · have := conv_float k2 w; rw [a2, b2] at this; exact this
end Go.Proofs.YtgpmlhpgdalheaaGreat

namespace Go.Proofs.YtgpmlhpgdalheaaGreat
open Go.ChangeShapes Go.WideShapes Go.ChangeAt Go.RowKit Go.Joins Pl
set_option linter.unusedVariables false

theorem numFloats32_own : ownKnob Tryz.prog.godebug = none := by kernel_rfl
section
variable {H : Type} {enc : TypeId × Value → H} {P : Program}
/-- Arguments that hold no place: what is asked behind the call. -/
theorem numFloats32_flat {f : Func} {s : ChangeSpec} {apart fresh handsOn again : Bool} {W W' : World} {args : Array Value} {v : Value} {ds gs : List (DataW H)}
    (hW : DataW.Whole enc P f.params.toList s.vars apart W args.toList ds gs [])
    (hres : ∀ (b : Nat) (sp : Nat → Bool) (hd : Bool), DataW.TrodAll enc P W' b sp hd f.resultTypes.toList (v.resultList f.resultTypes.size) (s.fn H (ds ++ gs)).results [])
    (hargs : ∀ sp : Nat → Bool, DataW.TrodAll enc P W' 0 sp true f.params.toList args.toList (s.fn H (ds ++ gs)).args [])
    (hvars : ∀ sp : Nat → Bool, DataW.TrodVars enc P W' sp s.vars (s.fn H (ds ++ gs)).vars [])
    (hk : ∀ may : MemPlace → Prop, W.keptBut W' may)
    (hok : ∀ (j : Nat) (t : TypeId) (r : Value), f.resultTypes[j]? = some t → (v.resultList f.resultTypes.size)[j]? = some r → Value.okWide P W' .any 0 t r) :
    s.post enc P f apart fresh handsOn again W args v W' :=
  ⟨ds, gs, [], [], [], [], hW, hres _ _ _, hargs _, hvars _, hk _, fun _ => ⟨hok, _, _, [], ⟨[], [], trodAll_append (hargs _) (hres _ _ _), hvars _, rfl, (fun b off hp => by cases hp), (fun _ => List.nodup_nil)⟩, (fun p hp _ => by cases hp)⟩⟩
end

theorem numFloats32_bounds {n : Int} (h : (Lit.int .u32 n).wf = true) : 0 ≤ n ∧ n < 4294967296 := by
  simp [Lit.wf, IntKind.min, IntKind.max, IntKind.signed, IntKind.bits] at h
  omega
theorem numFloats32_walk_row (a b : Int) (wa : 0 ≤ a ∧ a < 4294967296) (wb : 0 ≤ b ∧ b < 4294967296) (W : World) :
    Calls Tryz.prog 7 #[.int .u32 a, .int .u32 b] W fun e w' => e = .returned (.bool true) ∧ Below W.heap.size W w' := by
  obtain ⟨X, rfl⟩ : ∃ X : Nat, a = (X : Int) := ⟨a.toNat, by omega⟩
  obtain ⟨Y, rfl⟩ : ∃ Y : Nat, b = (Y : Int) := ⟨b.toNat, by omega⟩
  exact numFloats32_walk X Y (by omega) (by omega) W

set_option maxRecDepth 100000 in
theorem numFloats32_lifted (os : Os) (started : os.Started) (H : Type) (enc : TypeId × Value → H) :
    ReturnsInHanded {} Tryz.checked os 7 .any (Rows.numFloats32Spec.pre6 enc Tryz.prog Tryz.f7 Rows.numFloats32Row.domain false) (Rows.numFloats32Spec.post enc Tryz.prog Tryz.f7 false true false false) := by
  refine returnsInHanded_of_change (C := Tryz.checked) numFloats32_own started (by kernel_rfl) Tryz.func7
    (ChangeSpec.witness6 (enc := enc) (C := Tryz.checked) false ⟨#[], #[.int .u32 0, .int .u32 0], []⟩ 8 (by kernel_rfl) (by kernel_rfl) (by kernel_rfl) (by kernel_rfl)) ?_
  intro W base args ds gs before hval0 hW hcnd _
  have hval : ∀ (j : Nat) t v, Tryz.f7.params[j]? = some t → args[j]? = some v → Value.okWide Tryz.prog W .any base t v := hval0
  have hW' := hW
  obtain ⟨p, q, hA0, hV, rfl, hfz, hnd⟩ := hW
  have hA : DataW.TrodAll enc Tryz.prog W 0 (fun _ => true) true Tryz.f7.params.toList args.toList ds p := hA0
  rw [Tryz.params7] at hA hval
  obtain ⟨v0, vs0, d0, ds0, p0, q0, hargs, rfl, rfl, h0, r0⟩ := trodAll_cons hA
  obtain ⟨v1, vs1, d1, ds1, p1, q1, rfl, rfl, rfl, h1, r1⟩ := trodAll_cons r0
  obtain ⟨rfl, rfl, rfl⟩ := trodAll_nil r1
  obtain rfl : args = #[v0, v1] := by cases args; simp_all
  obtain ⟨rfl, rfl⟩ := trodVars_none hV
  obtain ⟨a, rfl, rfl, rfl, wa⟩ := open_int Tryz.underlying45 (hval 0 45 v0 rfl rfl) h0
  obtain ⟨b, rfl, rfl, rfl, wb⟩ := open_int Tryz.underlying45 (hval 1 45 v1 rfl rfl) h1
  clear hA0 hval0
  simp only [List.append_nil] at hW'
  refine (numFloats32_walk_row a b (numFloats32_bounds wa) (numFloats32_bounds wb) W).mono fun e W' ⟨he, hg⟩ => ?_
  subst he
  exact ⟨_, rfl, numFloats32_flat hW' (fun _ _ _ => trodAll_cons_mk (shut_bool Tryz.underlying4 _) trodAll_mk0) (fun sp => trodAll_cons_mk (shut_int Tryz.underlying45 wa) (trodAll_cons_mk (shut_int Tryz.underlying45 wb) trodAll_mk0)) (fun _ => rfl) (fun may => hg.frame may) (ok_one (by kernel_rfl) rfl (okWide_bool_mk Tryz.underlying4 _))⟩

theorem numFloats32_over : Rows.numFloats32Row.holds Tryz.pinned (OpenSpec.ofChange Rows.numFloats32Spec) :=
  OpenClaim.holds_of_wide 7 Tryz.f7 rfl rfl rfl rfl rfl rfl rfl ⟨rfl, rfl, rfl, rfl, rfl⟩ rfl rfl rfl rfl rfl (by kernel_rfl) Tryz.func7 (by kernel_rfl)
    (of_decide_eq_true (by kernel_rfl)) (by unfold Func.isWrapper; first | (rw [if_pos (by decide +kernel)]; kernel_rfl) | (rw [if_neg (by decide +kernel)]; exact ⟨rfl, rfl⟩))
    (fun os started H enc _ => numFloats32_lifted os started H enc)

/-- THE STATEMENT. -/
theorem numFloats32_holds : Rows.NumFloats32Said := numFloats32_over
#print axioms numFloats32_holds
end Go.Proofs.YtgpmlhpgdalheaaGreat
