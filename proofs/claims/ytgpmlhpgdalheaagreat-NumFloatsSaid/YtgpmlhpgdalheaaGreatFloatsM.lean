/- NumFloats: the walk. The statement Rows.NumFloatsSaid: for every input the law returns true, and each argument reads behind the call as it read before. No condition. -/
import Derived.Test.YtgpmlhpgdalheaaGreatHD
import Derived.Test.YtgpmlhpgdalheaaGreatLawA
import Derived.Test.YtgpmlhpgdalheaaGreatAwakeF
import Derived.Test.YtgpmlhpgdalheaaGreatRows
import Derived.ProofKit
import Derived.OpenShut
import Derived.Lib.SmallJoins
namespace Go.Proofs.YtgpmlhpgdalheaaGreat
open Go.RowKit Pl Fl
set_option linter.unusedVariables false
set_option linter.unusedSimpArgs false

namespace Fl
open Ieee
theorem ord_self {X : Nat} (hX : X < 18446744073709551616) (hE : xE X ≠ 2047) : (double.order X X == some Ordering.eq) = true := by
  rw [order_fin hX hX hE hE, Int.compare_eq_eq.2 rfl]; rfl
end Fl
set_option maxHeartbeats 1000000 in
theorem signbit_any (X : Nat) (hX : X < 18446744073709551616) (w : World) : Calls Tryz.prog 63 #[.float .f64 X] w fun r w' => r = .returned (.bool (xS X)) ∧ w' = w := by
  have g2 := f64bits
  have e : decide (wrap64 (X : Int) < 0) = xS X := by
    unfold xS; rw [Bool.eq_iff_iff, decide_eq_true_eq, decide_eq_true_eq]; simp only [wrap64]; omega
  go_enter Tryz.func63, Tryz.ntmps63
  go_wp2_with fail
  go_ret
  exact ⟨rfl, rfl⟩
/-- What is asked of a part's word and of the word that comes back. -/
theorem f_facts {X : Nat} (hX : X < 18446744073709551616) (hE : xE X ≠ 2047) :
    (FloatKind.f64.format.order (if xM X = 0 then 0 else X) X == some Ordering.eq) = true ∧
    (FloatKind.f64.format.order X 0 == some Ordering.gt || FloatKind.f64.format.order X 0 == some Ordering.eq) = !decide (9223372036854775808 ≤ X ∧ xM X ≠ 0) ∧ True ∧
    (∀ w : World, Calls Tryz.prog 63 #[.float .f64 (if xM X = 0 then 0 else X)] w fun r w' => r = .returned (.bool (decide (9223372036854775808 ≤ X ∧ xM X ≠ 0))) ∧ w' = w) := by
  have k0 : xK 0 = 0 := by
    unfold xK xN
    rw [show xM 0 = 0 from rfl, Nat.zero_mul, zi_zero]
  have kX : xM X = 0 → xK X = 0 := fun h => by unfold xK xN; rw [h, Nat.zero_mul, zi_zero]
  have hE0 : xE 0 ≠ 2047 := by decide
  refine ⟨?_, ?_, trivial, fun w => ?_⟩
  · show (Ieee.double.order _ X == some Ordering.eq) = true
    by_cases h : xM X = 0
    · rw [if_pos h, order_fin (by omega) hX hE0 hE, k0, kX h, Int.compare_eq_eq.2 rfl]; rfl
    · rw [if_neg h]; exact ord_self hX hE
  · show (Ieee.double.order X 0 == some Ordering.gt || Ieee.double.order X 0 == some Ordering.eq) = _
    rw [order_fin hX (by omega) hE hE0, k0]
    by_cases h : xM X = 0
    · rw [kX h, Int.compare_eq_eq.2 rfl, decide_eq_false (fun q => q.2 h)]; rfl
    · have hp : 0 < xN X := by unfold xN; exact Nat.mul_pos (by omega) (Nat.pow_pos (by omega))
      have hk : xK X = zi (xS X) (xN X) := rfl
      rw [hk]
      generalize xN X = n at *
      unfold xS
      by_cases hs : 9223372036854775808 ≤ X
      · rw [decide_eq_true hs, decide_eq_true ⟨hs, h⟩]
        have e : zi true n = -(n : Int) := rfl
        rw [e, Int.compare_eq_lt.2 (show -(n : Int) < 0 by omega)]; rfl
      · rw [decide_eq_false hs, decide_eq_false (fun q => hs q.1)]
        have e : zi false n = (n : Int) := rfl
        rw [e, Int.compare_eq_gt.2 (show (0 : Int) < (n : Int) by omega)]; rfl
  · by_cases h : xM X = 0
    · rw [if_pos h, decide_eq_false (fun q => q.2 h)]; exact signbit_any 0 (by omega) w
    · rw [if_neg h]
      have e : decide (9223372036854775808 ≤ X ∧ xM X ≠ 0) = xS X := by
        unfold xS; rw [Bool.eq_iff_iff, decide_eq_true_eq, decide_eq_true_eq]; exact ⟨fun q => q.1, fun q => ⟨q, h⟩⟩
      rw [e]; exact signbit_any X hX w

set_option maxRecDepth 100000 in
set_option maxHeartbeats 4000000 in
theorem floats_fin (X Y : Nat) (hX : X < 18446744073709551616) (hY : Y < 18446744073709551616) (hE : xE X ≠ 2047) (hF : xE Y ≠ 2047) (w : World) :
    Calls Tryz.prog 6 #[.int .u64 (X : Nat), .int .u64 (Y : Nat)] w (RetBool w true) := by
  have g1 : ∀ w, (callFunc 60 #[.int .u64 (X : Nat)]).run Tryz.prog w = .ok (.value (.float .f64 X)) w := fun w => f64from X w
  have g2 : ∀ w, (callFunc 60 #[.int .u64 (Y : Nat)]).run Tryz.prog w = .ok (.value (.float .f64 Y)) w := fun w => f64from Y w
  have C1 := Lib.hid (fun w => complex_fin X Y hX hY hE hF w)
  have C2 := Lib.hid (fun w => rcomplex_fin X Y hX hY hE hF w)
  have ZQ := Lib.hid (cx_sz X Y)
  have NR := Lib.hid (cx_near hX hY hE hF)
  have FA := Lib.hid (f_facts hX hE)
  have FB := Lib.hid (f_facts hY hF)
  obtain ⟨q, hq⟩ : ∃ q, q = cx X Y := ⟨_, rfl⟩
  rw [← hq] at C1 C2 ZQ NR
  clear hq hX hY hE hF
  go_enter Tryz.func6, Tryz.ntmps6
  go_wp2_with fail
  refine (C1.out _).mono ?_
  rintro e w1 ⟨A1, A2, A3, rfl, hx, hb1⟩
  have HW := Lib.hid hb1
  clear hb1
  go_upto_region 3 with fail
  obtain ⟨w2, hX⟩ : ∃ X : World, X = w1.alloc (.cells #[.bool (sn (na q)), .slice A1 (ln (ab (na q))) (ln (ab (na q))), .bool (sn (nb q)), .slice A2 (ln (ab (nb q))) (ln (ab (nb q))), .slice A3 (ln (un q)) (ln (un q))] 30) := ⟨_, rfl⟩
  rw [← hX]
  have hb : Below w1.heap.size w1 w2 := by rw [hX]; exact (Below.refl _ _).alloc (Nat.le_refl _) _
  have s0 : w2.cell? ⟨w1.heap.size, 0, none⟩ = some (.bool (sn (na q))) := by subst hX; go_simp
  have s1 : w2.cell? ⟨w1.heap.size, 1, none⟩ = some (.slice A1 (ln (ab (na q))) (ln (ab (na q)))) := by subst hX; go_simp
  have s2 : w2.cell? ⟨w1.heap.size, 2, none⟩ = some (.bool (sn (nb q))) := by subst hX; go_simp
  have s3 : w2.cell? ⟨w1.heap.size, 3, none⟩ = some (.slice A2 (ln (ab (nb q))) (ln (ab (nb q)))) := by subst hX; go_simp
  have s4 : w2.cell? ⟨w1.heap.size, 4, none⟩ = some (.slice A3 (ln (un q)) (ln (un q))) := by subst hX; go_simp
  have l0 : w1.heap.size < w2.heap.size := by rw [hX]; simp
  clear hX
  obtain ⟨x0, hg⟩ : ∃ g, g = w1.heap.size := ⟨_, rfl⟩
  rw [← hg] at s0 s1 s2 s3 s4 l0
  rw [← hg]
  clear hg
  replace hx := hx.to hb
  replace HW := Lib.hid (hstep HW hb)
  clear hb
  go_wp2_with fail
  refine (C2.out _).mono ?_
  rintro e w3 ⟨B1, B2, B3, cB1, cB2, cB3, rfl, hy, hb⟩
  replace s0 := keepc hb s0 l0
  replace s1 := keepc hb s1 l0
  replace s2 := keepc hb s2 l0
  replace s3 := keepc hb s3 l0
  replace s4 := keepc hb s4 l0
  replace l0 := Nat.lt_of_lt_of_le l0 hb.size
  replace hx := hx.to hb
  replace HW := Lib.hid (hstep HW hb)
  clear hb
  go_upto_region 4 with fail
  obtain ⟨w4, hX⟩ : ∃ X : World, X = w3.alloc (.cells #[.bool (sn (na q)), .slice B1 (ln (ab (na q))) cB1, .bool (sn (nb q)), .slice B2 (ln (ab (nb q))) cB2, .slice B3 (ln (nd q)) cB3] 34) := ⟨_, rfl⟩
  rw [← hX]
  have hb : Below w3.heap.size w3 w4 := by rw [hX]; exact (Below.refl _ _).alloc (Nat.le_refl _) _
  have e0 : w4.cell? ⟨w3.heap.size, 0, none⟩ = some (.bool (sn (na q))) := by subst hX; go_simp
  have e1 : w4.cell? ⟨w3.heap.size, 1, none⟩ = some (.slice B1 (ln (ab (na q))) cB1) := by subst hX; go_simp
  have e2 : w4.cell? ⟨w3.heap.size, 2, none⟩ = some (.bool (sn (nb q))) := by subst hX; go_simp
  have e3 : w4.cell? ⟨w3.heap.size, 3, none⟩ = some (.slice B2 (ln (ab (nb q))) cB2) := by subst hX; go_simp
  have e4 : w4.cell? ⟨w3.heap.size, 4, none⟩ = some (.slice B3 (ln (nd q)) cB3) := by subst hX; go_simp
  have l1 : w3.heap.size < w4.heap.size := by rw [hX]; simp
  clear hX
  obtain ⟨y0, hg⟩ : ∃ g, g = w3.heap.size := ⟨_, rfl⟩
  rw [← hg] at e0 e1 e2 e3 e4 l1
  rw [← hg]
  clear hg
  obtain hb := hb
  replace s0 := keepc hb s0 l0
  replace s1 := keepc hb s1 l0
  replace s2 := keepc hb s2 l0
  replace s3 := keepc hb s3 l0
  replace s4 := keepc hb s4 l0
  replace l0 := Nat.lt_of_lt_of_le l0 hb.size
  replace hx := hx.to hb
  replace hy := hy.to hb
  replace HW := Lib.hid (hstep HW hb)
  clear hb
  go_wp2_with fail
  refine (is_true q A1 A2 A3 B1 B2 B3 cB1 cB2 cB3 _ (by exact hx) (by exact hy) (sz.mono ZQ.out (by omega))).mono ?_
  rintro e w5 ⟨rfl, hb⟩
  replace s0 := keepc hb s0 l0
  replace s1 := keepc hb s1 l0
  replace s2 := keepc hb s2 l0
  replace s3 := keepc hb s3 l0
  replace s4 := keepc hb s4 l0
  replace l0 := Nat.lt_of_lt_of_le l0 hb.size
  replace hx := hx.to hb
  replace hy := hy.to hb
  replace e0 := keepc hb e0 l1
  replace e1 := keepc hb e1 l1
  replace e2 := keepc hb e2 l1
  replace e3 := keepc hb e3 l1
  replace e4 := keepc hb e4 l1
  replace l1 := Nat.lt_of_lt_of_le l1 hb.size
  replace HW := Lib.hid (hstep HW hb)
  clear hb
  go_wp2_with fail
  refine (near_any q A1 A2 A3 _ (by exact hx) (sz.mono ZQ.out (by omega))).mono ?_
  rintro e w6 ⟨rfl, hb⟩
  replace s0 := keepc hb s0 l0
  replace s1 := keepc hb s1 l0
  replace s2 := keepc hb s2 l0
  replace s3 := keepc hb s3 l0
  replace s4 := keepc hb s4 l0
  replace l0 := Nat.lt_of_lt_of_le l0 hb.size
  replace hx := hx.to hb
  replace hy := hy.to hb
  replace e0 := keepc hb e0 l1
  replace e1 := keepc hb e1 l1
  replace e2 := keepc hb e2 l1
  replace e3 := keepc hb e3 l1
  replace e4 := keepc hb e4 l1
  replace l1 := Nat.lt_of_lt_of_le l1 hb.size
  replace HW := Lib.hid (hstep HW hb)
  clear hb
  rw [NR.out.1, NR.out.2]
  obtain ⟨V, hV⟩ : ∃ V, V = (if xM X = 0 then 0 else X) := ⟨_, rfl⟩
  obtain ⟨U, hU⟩ : ∃ V, V = (if xM Y = 0 then 0 else Y) := ⟨_, rfl⟩
  rw [← hV, ← hU]
  rw [← hV] at FA
  rw [← hU] at FB
  clear hV hU NR
  obtain ⟨a1, a2, a3, a4⟩ := FA.out
  obtain ⟨b1, b2, b3, b4⟩ := FB.out
  have A4 := Lib.hid a4
  have B4 := Lib.hid b4
  clear FA FB a4 b4
  generalize decide (9223372036854775808 ≤ X ∧ xM X ≠ 0) = p1 at *
  generalize decide (9223372036854775808 ≤ Y ∧ xM Y ≠ 0) = p2 at *
  go_wp2_with fail
  refine (A4.out _).mono ?_
  rintro e w7 ⟨rfl, hw⟩
  rw [hw]
  go_wp2_with fail
  refine (B4.out _).mono ?_
  rintro e w8 ⟨rfl, hw2⟩
  rw [hw2]
  go_wp2_with fail
  refine (awake_any _).mono ?_
  rintro e w9 ⟨rfl, hb⟩
  replace HW := Lib.hid (hstep HW hb)
  clear hb
  go_wp2_with fail
  exact bodyPost_ret (v := .bool true) (by simp [results, Tryz.results6, go_sem]) rfl ⟨rfl, HW.out⟩

set_option maxRecDepth 100000 in
set_option maxHeartbeats 4000000 in
theorem floats_bad (X Y : Nat) (hX : X < 18446744073709551616) (hY : Y < 18446744073709551616) (hE : xE X = 2047 ∨ xE Y = 2047) (w : World) :
    Calls Tryz.prog 6 #[.int .u64 (X : Nat), .int .u64 (Y : Nat)] w (RetBool w true) := by
  have g1 : ∀ w, (callFunc 60 #[.int .u64 (X : Nat)]).run Tryz.prog w = .ok (.value (.float .f64 X)) w := fun w => f64from X w
  have g2 : ∀ w, (callFunc 60 #[.int .u64 (Y : Nat)]).run Tryz.prog w = .ok (.value (.float .f64 Y)) w := fun w => f64from Y w
  have C1 := Lib.hid (fun w => complex_bad X Y hX hY hE w)
  have C2 := Lib.hid (fun w => rcomplex_bad X Y hX hY hE w)
  have ZQ : Hid (sz 80 Cx.zero) := Lib.hid (sz_int0.mono (by omega))
  obtain ⟨q, hq⟩ : ∃ q, q = Cx.zero := ⟨_, rfl⟩
  rw [← hq] at C1 C2 ZQ
  clear hq hX hY hE
  go_enter Tryz.func6, Tryz.ntmps6
  go_wp2_with fail
  refine (C1.out _).mono ?_
  rintro e w1 ⟨A1, A2, A3, rfl, hx, hb1⟩
  have HW := Lib.hid hb1
  clear hb1
  go_upto_region 3 with fail
  obtain ⟨w2, hX⟩ : ∃ X : World, X = w1.alloc (.cells #[.bool (sn (na q)), .slice A1 (ln (ab (na q))) (ln (ab (na q))), .bool (sn (nb q)), .slice A2 (ln (ab (nb q))) (ln (ab (nb q))), .slice A3 (ln (un q)) (ln (un q))] 30) := ⟨_, rfl⟩
  rw [← hX]
  have hb : Below w1.heap.size w1 w2 := by rw [hX]; exact (Below.refl _ _).alloc (Nat.le_refl _) _
  have s0 : w2.cell? ⟨w1.heap.size, 0, none⟩ = some (.bool (sn (na q))) := by subst hX; go_simp
  have s1 : w2.cell? ⟨w1.heap.size, 1, none⟩ = some (.slice A1 (ln (ab (na q))) (ln (ab (na q)))) := by subst hX; go_simp
  have s2 : w2.cell? ⟨w1.heap.size, 2, none⟩ = some (.bool (sn (nb q))) := by subst hX; go_simp
  have s3 : w2.cell? ⟨w1.heap.size, 3, none⟩ = some (.slice A2 (ln (ab (nb q))) (ln (ab (nb q)))) := by subst hX; go_simp
  have s4 : w2.cell? ⟨w1.heap.size, 4, none⟩ = some (.slice A3 (ln (un q)) (ln (un q))) := by subst hX; go_simp
  have l0 : w1.heap.size < w2.heap.size := by rw [hX]; simp
  clear hX
  obtain ⟨x0, hg⟩ : ∃ g, g = w1.heap.size := ⟨_, rfl⟩
  rw [← hg] at s0 s1 s2 s3 s4 l0
  rw [← hg]
  clear hg
  replace hx := hx.to hb
  replace HW := Lib.hid (hstep HW hb)
  clear hb
  go_wp2_with fail
  refine (C2.out _).mono ?_
  rintro e w3 ⟨B1, B2, B3, cB1, cB2, cB3, rfl, hy, hb⟩
  replace s0 := keepc hb s0 l0
  replace s1 := keepc hb s1 l0
  replace s2 := keepc hb s2 l0
  replace s3 := keepc hb s3 l0
  replace s4 := keepc hb s4 l0
  replace l0 := Nat.lt_of_lt_of_le l0 hb.size
  replace hx := hx.to hb
  replace HW := Lib.hid (hstep HW hb)
  clear hb
  go_upto_region 4 with fail
  obtain ⟨w4, hX⟩ : ∃ X : World, X = w3.alloc (.cells #[.bool (sn (na q)), .slice B1 (ln (ab (na q))) cB1, .bool (sn (nb q)), .slice B2 (ln (ab (nb q))) cB2, .slice B3 (ln (nd q)) cB3] 34) := ⟨_, rfl⟩
  rw [← hX]
  have hb : Below w3.heap.size w3 w4 := by rw [hX]; exact (Below.refl _ _).alloc (Nat.le_refl _) _
  have e0 : w4.cell? ⟨w3.heap.size, 0, none⟩ = some (.bool (sn (na q))) := by subst hX; go_simp
  have e1 : w4.cell? ⟨w3.heap.size, 1, none⟩ = some (.slice B1 (ln (ab (na q))) cB1) := by subst hX; go_simp
  have e2 : w4.cell? ⟨w3.heap.size, 2, none⟩ = some (.bool (sn (nb q))) := by subst hX; go_simp
  have e3 : w4.cell? ⟨w3.heap.size, 3, none⟩ = some (.slice B2 (ln (ab (nb q))) cB2) := by subst hX; go_simp
  have e4 : w4.cell? ⟨w3.heap.size, 4, none⟩ = some (.slice B3 (ln (nd q)) cB3) := by subst hX; go_simp
  have l1 : w3.heap.size < w4.heap.size := by rw [hX]; simp
  clear hX
  obtain ⟨y0, hg⟩ : ∃ g, g = w3.heap.size := ⟨_, rfl⟩
  rw [← hg] at e0 e1 e2 e3 e4 l1
  rw [← hg]
  clear hg
  obtain hb := hb
  replace s0 := keepc hb s0 l0
  replace s1 := keepc hb s1 l0
  replace s2 := keepc hb s2 l0
  replace s3 := keepc hb s3 l0
  replace s4 := keepc hb s4 l0
  replace l0 := Nat.lt_of_lt_of_le l0 hb.size
  replace hx := hx.to hb
  replace hy := hy.to hb
  replace HW := Lib.hid (hstep HW hb)
  clear hb
  go_wp2_with fail
  refine (is_true q A1 A2 A3 B1 B2 B3 cB1 cB2 cB3 _ (by exact hx) (by exact hy) (sz.mono ZQ.out (by omega))).mono ?_
  rintro e w5 ⟨rfl, hb⟩
  replace s0 := keepc hb s0 l0
  replace s1 := keepc hb s1 l0
  replace s2 := keepc hb s2 l0
  replace s3 := keepc hb s3 l0
  replace s4 := keepc hb s4 l0
  replace l0 := Nat.lt_of_lt_of_le l0 hb.size
  replace hx := hx.to hb
  replace hy := hy.to hb
  replace e0 := keepc hb e0 l1
  replace e1 := keepc hb e1 l1
  replace e2 := keepc hb e2 l1
  replace e3 := keepc hb e3 l1
  replace e4 := keepc hb e4 l1
  replace l1 := Nat.lt_of_lt_of_le l1 hb.size
  replace HW := Lib.hid (hstep HW hb)
  clear hb
  go_wp2_with fail
  refine (awake_any _).mono ?_
  rintro e w9 ⟨rfl, hb⟩
  replace HW := Lib.hid (hstep HW hb)
  clear hb
  go_wp2_with fail
  exact bodyPost_ret (v := .bool true) (by simp [results, Tryz.results6, go_sem]) rfl ⟨rfl, HW.out⟩

/-- THE WALK: for every two words the law answers true. -/
theorem numFloats_walk (X Y : Nat) (hX : X < 18446744073709551616) (hY : Y < 18446744073709551616) (w : World) : Calls Tryz.prog 6 #[.int .u64 (X : Nat), .int .u64 (Y : Nat)] w (RetBool w true) := by
  by_cases h : xE X = 2047 ∨ xE Y = 2047
  · exact floats_bad X Y hX hY h w
  · exact floats_fin X Y hX hY (fun e => h (.inl e)) (fun e => h (.inr e)) w
end Go.Proofs.YtgpmlhpgdalheaaGreat

namespace Go.Proofs.YtgpmlhpgdalheaaGreat
open Go.ChangeShapes Go.WideShapes Go.ChangeAt Go.RowKit Go.Joins Pl
set_option linter.unusedVariables false

theorem numFloats_own : ownKnob Tryz.prog.godebug = none := by kernel_rfl
section
variable {H : Type} {enc : TypeId × Value → H} {P : Program}
/-- Arguments that hold no place: what is asked behind the call. -/
theorem numFloats_flat {f : Func} {s : ChangeSpec} {apart fresh handsOn again : Bool} {W W' : World} {args : Array Value} {v : Value} {ds gs : List (DataW H)}
    (hW : DataW.Whole enc P f.params.toList s.vars apart W args.toList ds gs [])
    (hres : ∀ (b : Nat) (sp : Nat → Bool) (hd : Bool), DataW.TrodAll enc P W' b sp hd f.resultTypes.toList (v.resultList f.resultTypes.size) (s.fn H (ds ++ gs)).results [])
    (hargs : ∀ sp : Nat → Bool, DataW.TrodAll enc P W' 0 sp true f.params.toList args.toList (s.fn H (ds ++ gs)).args [])
    (hvars : ∀ sp : Nat → Bool, DataW.TrodVars enc P W' sp s.vars (s.fn H (ds ++ gs)).vars [])
    (hk : ∀ may : MemPlace → Prop, W.keptBut W' may)
    (hok : ∀ (j : Nat) (t : TypeId) (r : Value), f.resultTypes[j]? = some t → (v.resultList f.resultTypes.size)[j]? = some r → Value.okWide P W' .any 0 t r) :
    s.post enc P f apart fresh handsOn again W args v W' :=
  ⟨ds, gs, [], [], [], [], hW, hres _ _ _, hargs _, hvars _, hk _, fun _ => ⟨hok, _, _, [], ⟨[], [], trodAll_append (hargs _) (hres _ _ _), hvars _, rfl, (fun b off hp => by cases hp), (fun _ => List.nodup_nil)⟩, (fun p hp _ => by cases hp)⟩⟩
end

theorem numFloats_bounds {n : Int} (h : (Lit.int .u64 n).wf = true) : 0 ≤ n ∧ n < 18446744073709551616 := by
  simp [Lit.wf, IntKind.min, IntKind.max, IntKind.signed, IntKind.bits] at h
  omega
theorem numFloats_walk_row (a b : Int) (wa : 0 ≤ a ∧ a < 18446744073709551616) (wb : 0 ≤ b ∧ b < 18446744073709551616) (W : World) :
    Calls Tryz.prog 6 #[.int .u64 a, .int .u64 b] W fun e w' => e = .returned (.bool true) ∧ Below W.heap.size W w' := by
  obtain ⟨X, rfl⟩ : ∃ X : Nat, a = (X : Int) := ⟨a.toNat, by omega⟩
  obtain ⟨Y, rfl⟩ : ∃ Y : Nat, b = (Y : Int) := ⟨b.toNat, by omega⟩
  exact numFloats_walk X Y (by omega) (by omega) W

set_option maxRecDepth 100000 in
theorem numFloats_lifted (os : Os) (started : os.Started) (H : Type) (enc : TypeId × Value → H) :
    ReturnsInHanded {} Tryz.checked os 6 .any (Rows.numFloatsSpec.pre6 enc Tryz.prog Tryz.f6 Rows.numFloatsRow.domain false) (Rows.numFloatsSpec.post enc Tryz.prog Tryz.f6 false true false false) := by
  refine returnsInHanded_of_change (C := Tryz.checked) numFloats_own started (by kernel_rfl) Tryz.func6
    (ChangeSpec.witness6 (enc := enc) (C := Tryz.checked) false ⟨#[], #[.int .u64 0, .int .u64 0], []⟩ 8 (by kernel_rfl) (by kernel_rfl) (by kernel_rfl) (by kernel_rfl)) ?_
  intro W base args ds gs before hval0 hW hcnd _
  have hval : ∀ (j : Nat) t v, Tryz.f6.params[j]? = some t → args[j]? = some v → Value.okWide Tryz.prog W .any base t v := hval0
  have hW' := hW
  obtain ⟨p, q, hA0, hV, rfl, hfz, hnd⟩ := hW
  have hA : DataW.TrodAll enc Tryz.prog W 0 (fun _ => true) true Tryz.f6.params.toList args.toList ds p := hA0
  rw [Tryz.params6] at hA hval
  obtain ⟨v0, vs0, d0, ds0, p0, q0, hargs, rfl, rfl, h0, r0⟩ := trodAll_cons hA
  obtain ⟨v1, vs1, d1, ds1, p1, q1, rfl, rfl, rfl, h1, r1⟩ := trodAll_cons r0
  obtain ⟨rfl, rfl, rfl⟩ := trodAll_nil r1
  obtain rfl : args = #[v0, v1] := by cases args; simp_all
  obtain ⟨rfl, rfl⟩ := trodVars_none hV
  obtain ⟨a, rfl, rfl, rfl, wa⟩ := open_int Tryz.underlying85 (hval 0 85 v0 rfl rfl) h0
  obtain ⟨b, rfl, rfl, rfl, wb⟩ := open_int Tryz.underlying85 (hval 1 85 v1 rfl rfl) h1
  clear hA0 hval0
  simp only [List.append_nil] at hW'
  refine (numFloats_walk_row a b (numFloats_bounds wa) (numFloats_bounds wb) W).mono fun e W' ⟨he, hg⟩ => ?_
  subst he
  exact ⟨_, rfl, numFloats_flat hW' (fun _ _ _ => trodAll_cons_mk (shut_bool Tryz.underlying4 _) trodAll_mk0) (fun sp => trodAll_cons_mk (shut_int Tryz.underlying85 wa) (trodAll_cons_mk (shut_int Tryz.underlying85 wb) trodAll_mk0)) (fun _ => rfl) (fun may => hg.frame may) (ok_one (by kernel_rfl) rfl (okWide_bool_mk Tryz.underlying4 _))⟩

theorem numFloats_over : Rows.numFloatsRow.holds Tryz.pinned (OpenSpec.ofChange Rows.numFloatsSpec) :=
  OpenClaim.holds_of_wide 6 Tryz.f6 rfl rfl rfl rfl rfl rfl rfl ⟨rfl, rfl, rfl, rfl, rfl⟩ rfl rfl rfl rfl rfl (by kernel_rfl) Tryz.func6 (by kernel_rfl)
    (of_decide_eq_true (by kernel_rfl)) (by unfold Func.isWrapper; first | (rw [if_pos (by decide +kernel)]; kernel_rfl) | (rw [if_neg (by decide +kernel)]; exact ⟨rfl, rfl⟩))
    (fun os started H enc _ => numFloats_lifted os started H enc)

/-- THE STATEMENT. -/
theorem numFloats_holds : Rows.NumFloatsSaid := numFloats_over
#print axioms numFloats_holds
end Go.Proofs.YtgpmlhpgdalheaaGreat
