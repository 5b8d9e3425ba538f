/- 'nat.len' of one word; 'round' at two places. -/
import Derived.Test.YtgpmlhpgdalheaaGreatGcd
import Derived.Test.YtgpmlhpgdalheaaGreatLawA
import Derived.Test.YtgpmlhpgdalheaaGreatLdexp
import Derived.LoopN
namespace Go.Proofs.YtgpmlhpgdalheaaGreat
open Go.RowKit Pl
set_option linter.unusedVariables false
set_option linter.unusedSimpArgs false

theorem shl_to (x n : Nat) (A : Option Addr) (w : World) (hx : Nat32 w A x) (hbx : ln x ≤ 35184372088832) (hn : n ≤ 1099511627776) {k : Int} (hk : k = (n : Int)) {v : Nat} (h : x * 2 ^ n = v) :
    Calls Tryz.prog 114 #[.slice A (ln x) (ln x), .int .i64 k] w (RetNat w v) := by subst hk; exact h ▸ shl_any x n A w hx hbx hn
theorem cmpn_to (x y : Nat) (A B : Option Addr) (w : World) (hx : Nat32 w A x) (hy : Nat32 w B y) (hbx : ln x ≤ 35184372088832) {c : Int} (h : cmpN x y = c) :
    Calls Tryz.prog 109 #[.slice A (ln x) (ln x), .slice B (ln y) (ln y)] w (RetInt w c) := h ▸ cmp_any x y A B w hx hy hbx
theorem divn_to (x y : Nat) (A B : Option Addr) (w : World) (hx : Nat32 w A x) (hy : Nat32 w B y) (hbx : ln x ≤ 1099511627776) (hby : ln y ≤ 1099511627776) (hy0 : y ≠ 0) {q r : Nat} (h : x / y = q) (k : x % y = r) :
    Calls Tryz.prog 159 #[.slice A (ln x) (ln x), .slice B (ln y) (ln y)] w (RetNat2 w q r) := by subst h; subst k; exact div_any x y A B w hx hy hbx hby hy0
theorem ln_lit {n k : Nat} (h : n < 4294967296 ^ k) (hk : 4294967296 ^ k ≤ n * 4294967296) (h0 : 0 < k) : ln n = k := by
  have h1 := ln_le h
  have h2 := lt_ln n
  have h3 : ¬ ln n ≤ k - 1 := fun hl => by
    have h4 : 4294967296 ^ ln n ≤ 4294967296 ^ (k - 1) := Nat.pow_le_pow_right (by omega) hl
    have h5 : 4294967296 ^ k = 4294967296 ^ (k - 1) * 4294967296 := by rw [← Nat.pow_succ, show (k - 1).succ = k by omega]
    omega
  omega

set_option maxHeartbeats 4000000 in
theorem len_small (n : Nat) (A : Option Addr) (w : World) (hx : Nat32 w A n) (h0 : n ≠ 0) (h1 : n < 4294967296) {a : Int} (ha : ((Lib.bitLen n : Nat) : Int) = a) (ha1 : 0 ≤ a) (ha2 : a ≤ 32) :
    Calls Tryz.prog 183 #[.slice A (ln n) (ln n)] w fun e w' => e = .returned (.int .i64 a) ∧ w' = w := by
  have hl : ln n = 1 := ln_lit (by simpa using h1) (by omega) (by omega)
  obtain ⟨b, rfl, hb, hc⟩ := hx h0
  have g := hc 0 (by omega)
  rw [show wd n 0 = n by rw [wd_0, Nat.mod_eq_of_lt h1]] at g
  rw [hl]
  have HA := Lib.hid ha
  have H1 := Lib.hid h1
  clear hc hl h0 hx ha h1
  go_enter Tryz.func183, Tryz.ntmps183
  go_wp2_with fail
  refine (Tryz.bits_Len32 (n : Int) w (by omega) (by have := H1.out; omega)).mono ?_
  rintro e w1 ⟨rfl, rfl⟩
  rw [show ((n : Int).toNat) = n by omega, HA.out]
  go_wp2_with fail
  go_ret
  exact ⟨rfl, rfl⟩

set_option maxRecDepth 100000 in
set_option maxHeartbeats 4000000 in
theorem round_a (n d : Nat) (N D : Option Addr) (w : World) (hn : n = 1) (hd : d = 10) (hx : Nat32 w N n) (hy : Nat32 w D d) :
    Calls Tryz.prog 144 #[.agg #[.int .i64 53, .int .i64 (-1074), .int .i64 1023], .slice N (ln n) (ln n), .slice D (ln d) (ln d), .int .i64 2] w (fun e w' => e = .returned (.float .f64 4591870180066957722) ∧ Below w.heap.size w w') := by
  have EN := Lib.hid hn
  have ED := Lib.hid hd
  clear hn hd
  have z1 : ((ln n : Int) == 0) = false := by rw [EN.out, ln_lit (n := 1) (k := 1) (by omega) (by omega) (by omega)]; rfl
  have e1 : bits .or .u64 0 2576980377 = 2576980377 := by kernel_rfl
  have e2 : bits .or .u64 2576980377 7205756826812416 = 7205759403792793 := by kernel_rfl
  have e3 : min (56 : Int) 1074 = 56 := by decide
  have hcv : ∀ w, (convert 85 44 (.int .u64 7205759403792794)).run Tryz.prog w = .ok (.float .f64 4844071759199705498) w := fun w => by kernel_rfl
  go_enter Tryz.func144, Tryz.ntmps144
  go_wp2_with fail
  obtain ⟨W, hW⟩ : ∃ W : World, W = (w.alloc (.cells #[.int .i64 53, .int .i64 (-1074), .int .i64 1023] 126)) := ⟨_, rfl⟩
  have s0_0 : W.cell? ⟨w.heap.size, 0, none⟩ = some (.int .i64 53) := by subst hW; go_simp
  have s0_1 : W.cell? ⟨w.heap.size, 1, none⟩ = some (.int .i64 (-1074)) := by subst hW; go_simp
  have s0_2 : W.cell? ⟨w.heap.size, 2, none⟩ = some (.int .i64 1023) := by subst hW; go_simp
  have HW : Below w.heap.size w W := by subst hW; exact ((Below.refl w.heap.size w).alloc (Nat.le_refl _) _)
  have l0 : w.heap.size < W.heap.size := by subst hW; simp
  replace hx := hx.to HW
  replace hy := hy.to HW
  rw [← hW]
  clear hW
  replace HW := Lib.hid HW
  refine (len_small n N _ (by exact hx) (by rw [EN.out]; omega) (by rw [EN.out]; omega) (a := 1) (by rw [EN.out]; rfl) (by omega) (by omega)).mono ?_
  rintro e w9 ⟨rfl, rfl⟩
  go_wp2_with fail
  refine (len_small d D _ (by exact hy) (by rw [ED.out]; omega) (by rw [ED.out]; omega) (a := 4) (by rw [ED.out]; rfl) (by omega) (by omega)).mono ?_
  rintro e w9 ⟨rfl, rfl⟩
  go_wp2_with fail
  refine (shl_to n 3 N _ (by exact hx) (by rw [EN.out]; exact (Nat.le_trans (ln_le (n := 1) (k := 1) (by decide)) (by decide : 1 ≤ 35184372088832))) (by omega) (by decide) (v := 8) (by rw [EN.out])).mono ?_
  rintro e w1 ⟨B1, rfl, h1, hb1⟩
  replace s0_0 := keepc hb1 s0_0 l0
  replace s0_1 := keepc hb1 s0_1 l0
  replace s0_2 := keepc hb1 s0_2 l0
  replace l0 := Nat.lt_of_lt_of_le l0 hb1.size
  replace hx := hx.to hb1
  replace hy := hy.to hb1
  replace HW := Lib.hid (hstep HW hb1)
  clear hb1
  go_wp2_with fail
  refine (shl_to d 0 D _ (by exact hy) (by rw [ED.out]; exact (Nat.le_trans (ln_le (n := 10) (k := 1) (by decide)) (by decide : 1 ≤ 35184372088832))) (by omega) (by decide) (v := 10) (by rw [ED.out])).mono ?_
  rintro e w2 ⟨B2, rfl, h2, hb2⟩
  replace s0_0 := keepc hb2 s0_0 l0
  replace s0_1 := keepc hb2 s0_1 l0
  replace s0_2 := keepc hb2 s0_2 l0
  replace l0 := Nat.lt_of_lt_of_le l0 hb2.size
  replace hx := hx.to hb2
  replace hy := hy.to hb2
  replace h1 := h1.to hb2
  replace HW := Lib.hid (hstep HW hb2)
  clear hb2
  go_wp2_with fail
  refine (cmpn_to 8 10 B1 B2 _ (by exact h1) (by exact h2) (Nat.le_trans (ln_le (n := 8) (k := 1) (by decide)) (by decide : 1 ≤ 35184372088832)) (c := -1) (by decide)).mono ?_
  rintro e w3 ⟨rfl, hb3⟩
  replace s0_0 := keepc hb3 s0_0 l0
  replace s0_1 := keepc hb3 s0_1 l0
  replace s0_2 := keepc hb3 s0_2 l0
  replace l0 := Nat.lt_of_lt_of_le l0 hb3.size
  replace hx := hx.to hb3
  replace hy := hy.to hb3
  replace h1 := h1.to hb3
  replace h2 := h2.to hb3
  replace HW := Lib.hid (hstep HW hb3)
  clear hb3
  go_wp2_with fail
  clear h1 h2
  refine (shl_to d 0 D _ (by exact hy) (by rw [ED.out]; exact (Nat.le_trans (ln_le (n := 10) (k := 1) (by decide)) (by decide : 1 ≤ 35184372088832))) (by omega) (by decide) (v := 10) (by rw [ED.out])).mono ?_
  rintro e w4 ⟨B3, rfl, h3, hb4⟩
  replace s0_0 := keepc hb4 s0_0 l0
  replace s0_1 := keepc hb4 s0_1 l0
  replace s0_2 := keepc hb4 s0_2 l0
  replace l0 := Nat.lt_of_lt_of_le l0 hb4.size
  replace hx := hx.to hb4
  replace hy := hy.to hb4
  replace HW := Lib.hid (hstep HW hb4)
  clear hb4
  go_wp2_with fail
  refine (shl_to n 56 N _ (by exact hx) (by rw [EN.out]; exact (Nat.le_trans (ln_le (n := 1) (k := 1) (by decide)) (by decide : 1 ≤ 35184372088832))) (by omega) (by decide) (v := 72057594037927936) (by rw [EN.out])).mono ?_
  rintro e w5 ⟨B4, rfl, h4, hb5⟩
  replace s0_0 := keepc hb5 s0_0 l0
  replace s0_1 := keepc hb5 s0_1 l0
  replace s0_2 := keepc hb5 s0_2 l0
  replace l0 := Nat.lt_of_lt_of_le l0 hb5.size
  replace hx := hx.to hb5
  replace hy := hy.to hb5
  replace h3 := h3.to hb5
  replace HW := Lib.hid (hstep HW hb5)
  clear hb5
  go_wp2_with fail
  refine (divn_to 72057594037927936 10 B4 B3 _ (by exact h4) (by exact h3) (Nat.le_trans (ln_le (n := 72057594037927936) (k := 2) (by decide)) (by decide : 2 ≤ 1099511627776)) (Nat.le_trans (ln_le (n := 10) (k := 1) (by decide)) (by decide : 1 ≤ 1099511627776)) (by omega) (q := 7205759403792793) (r := 6) (by decide) (by decide)).mono ?_
  rintro e w6 ⟨Q, R, rfl, hq, hr, hb6⟩
  replace s0_0 := keepc hb6 s0_0 l0
  replace s0_1 := keepc hb6 s0_1 l0
  replace s0_2 := keepc hb6 s0_2 l0
  replace l0 := Nat.lt_of_lt_of_le l0 hb6.size
  replace hx := hx.to hb6
  replace hy := hy.to hb6
  replace h3 := h3.to hb6
  replace h4 := h4.to hb6
  replace HW := Lib.hid (hstep HW hb6)
  clear hb6
  obtain ⟨qb, hQ, hqb, hqc⟩ := hq (by omega)
  subst hQ
  rw [show ln 7205759403792793 = 2 from ln_lit (by decide) (by decide) (by omega)] at hqc ⊢
  have c0 := hqc 0 (by omega)
  have c1 := hqc 1 (by omega)
  rw [show wd 7205759403792793 0 = 2576980377 by decide] at c0
  rw [show wd 7205759403792793 1 = 1677721 by decide] at c1
  clear hqc hq hqb h4
  go_wp2_with fail
  refine wp_loop_rounds 3 ?_
  rw [rounds_succ]
  go_wp2_with fail
  rw [rounds_succ]
  go_wp2_with fail
  rw [rounds_succ]
  go_wp2_with fail
  refine (shl_to 6 1 R _ (by exact hr) (Nat.le_trans (ln_le (n := 6) (k := 1) (by decide)) (by decide : 1 ≤ 35184372088832)) (by omega) (by decide) (v := 12) (by decide)).mono ?_
  rintro e w7 ⟨B5, rfl, h5, hb7⟩
  replace s0_0 := keepc hb7 s0_0 l0
  replace s0_1 := keepc hb7 s0_1 l0
  replace s0_2 := keepc hb7 s0_2 l0
  replace l0 := Nat.lt_of_lt_of_le l0 hb7.size
  replace hx := hx.to hb7
  replace hy := hy.to hb7
  replace h3 := h3.to hb7
  replace hr := hr.to hb7
  replace HW := Lib.hid (hstep HW hb7)
  clear hb7
  go_wp2_with fail
  refine (cmpn_to 12 10 B5 B3 _ (by exact h5) (by exact h3) (Nat.le_trans (ln_le (n := 12) (k := 1) (by decide)) (by decide : 1 ≤ 35184372088832)) (c := 1) (by decide)).mono ?_
  rintro e w8 ⟨rfl, hb8⟩
  replace s0_0 := keepc hb8 s0_0 l0
  replace s0_1 := keepc hb8 s0_1 l0
  replace s0_2 := keepc hb8 s0_2 l0
  replace l0 := Nat.lt_of_lt_of_le l0 hb8.size
  replace hx := hx.to hb8
  replace hy := hy.to hb8
  replace h3 := h3.to hb8
  replace hr := hr.to hb8
  replace h5 := h5.to hb8
  replace HW := Lib.hid (hstep HW hb8)
  clear hb8
  go_wp2_with fail
  refine (ldexp_a _).mono ?_
  rintro e w9 ⟨rfl, rfl⟩
  go_wp2_with fail
  exact bodyPost_ret (v := .float .f64 4591870180066957722) (by simp [results, Tryz.results144, go_sem]) rfl ⟨rfl, HW.out⟩

set_option maxRecDepth 100000 in
set_option maxHeartbeats 4000000 in
theorem round_b (n d : Nat) (N D : Option Addr) (w : World) (hn : n = 7) (hd : d = 10) (hx : Nat32 w N n) (hy : Nat32 w D d) :
    Calls Tryz.prog 144 #[.agg #[.int .i64 53, .int .i64 (-1074), .int .i64 1023], .slice N (ln n) (ln n), .slice D (ln d) (ln d), .int .i64 2] w (fun e w' => e = .returned (.float .f64 4604480259023595110) ∧ Below w.heap.size w w') := by
  have EN := Lib.hid hn
  have ED := Lib.hid hd
  clear hn hd
  have z1 : ((ln n : Int) == 0) = false := by rw [EN.out, ln_lit (n := 7) (k := 1) (by omega) (by omega) (by omega)]; rfl
  have e1 : bits .or .u64 0 1717986918 = 1717986918 := by kernel_rfl
  have e2 : bits .or .u64 1717986918 6305037760331776 = 6305039478318694 := by kernel_rfl
  have e3 : min (53 : Int) 1074 = 53 := by decide
  have hcv : ∀ w, (convert 85 44 (.int .u64 6305039478318694)).run Tryz.prog w = .ok (.float .f64 4843171039274231398) w := fun w => by kernel_rfl
  go_enter Tryz.func144, Tryz.ntmps144
  go_wp2_with fail
  obtain ⟨W, hW⟩ : ∃ W : World, W = (w.alloc (.cells #[.int .i64 53, .int .i64 (-1074), .int .i64 1023] 126)) := ⟨_, rfl⟩
  have s0_0 : W.cell? ⟨w.heap.size, 0, none⟩ = some (.int .i64 53) := by subst hW; go_simp
  have s0_1 : W.cell? ⟨w.heap.size, 1, none⟩ = some (.int .i64 (-1074)) := by subst hW; go_simp
  have s0_2 : W.cell? ⟨w.heap.size, 2, none⟩ = some (.int .i64 1023) := by subst hW; go_simp
  have HW : Below w.heap.size w W := by subst hW; exact ((Below.refl w.heap.size w).alloc (Nat.le_refl _) _)
  have l0 : w.heap.size < W.heap.size := by subst hW; simp
  replace hx := hx.to HW
  replace hy := hy.to HW
  rw [← hW]
  clear hW
  replace HW := Lib.hid HW
  refine (len_small n N _ (by exact hx) (by rw [EN.out]; omega) (by rw [EN.out]; omega) (a := 3) (by rw [EN.out]; rfl) (by omega) (by omega)).mono ?_
  rintro e w9 ⟨rfl, rfl⟩
  go_wp2_with fail
  refine (len_small d D _ (by exact hy) (by rw [ED.out]; omega) (by rw [ED.out]; omega) (a := 4) (by rw [ED.out]; rfl) (by omega) (by omega)).mono ?_
  rintro e w9 ⟨rfl, rfl⟩
  go_wp2_with fail
  refine (shl_to n 1 N _ (by exact hx) (by rw [EN.out]; exact (Nat.le_trans (ln_le (n := 7) (k := 1) (by decide)) (by decide : 1 ≤ 35184372088832))) (by omega) (by decide) (v := 14) (by rw [EN.out])).mono ?_
  rintro e w1 ⟨B1, rfl, h1, hb1⟩
  replace s0_0 := keepc hb1 s0_0 l0
  replace s0_1 := keepc hb1 s0_1 l0
  replace s0_2 := keepc hb1 s0_2 l0
  replace l0 := Nat.lt_of_lt_of_le l0 hb1.size
  replace hx := hx.to hb1
  replace hy := hy.to hb1
  replace HW := Lib.hid (hstep HW hb1)
  clear hb1
  go_wp2_with fail
  refine (shl_to d 0 D _ (by exact hy) (by rw [ED.out]; exact (Nat.le_trans (ln_le (n := 10) (k := 1) (by decide)) (by decide : 1 ≤ 35184372088832))) (by omega) (by decide) (v := 10) (by rw [ED.out])).mono ?_
  rintro e w2 ⟨B2, rfl, h2, hb2⟩
  replace s0_0 := keepc hb2 s0_0 l0
  replace s0_1 := keepc hb2 s0_1 l0
  replace s0_2 := keepc hb2 s0_2 l0
  replace l0 := Nat.lt_of_lt_of_le l0 hb2.size
  replace hx := hx.to hb2
  replace hy := hy.to hb2
  replace h1 := h1.to hb2
  replace HW := Lib.hid (hstep HW hb2)
  clear hb2
  go_wp2_with fail
  refine (cmpn_to 14 10 B1 B2 _ (by exact h1) (by exact h2) (Nat.le_trans (ln_le (n := 14) (k := 1) (by decide)) (by decide : 1 ≤ 35184372088832)) (c := 1) (by decide)).mono ?_
  rintro e w3 ⟨rfl, hb3⟩
  replace s0_0 := keepc hb3 s0_0 l0
  replace s0_1 := keepc hb3 s0_1 l0
  replace s0_2 := keepc hb3 s0_2 l0
  replace l0 := Nat.lt_of_lt_of_le l0 hb3.size
  replace hx := hx.to hb3
  replace hy := hy.to hb3
  replace h1 := h1.to hb3
  replace h2 := h2.to hb3
  replace HW := Lib.hid (hstep HW hb3)
  clear hb3
  go_wp2_with fail
  clear h1 h2
  refine (shl_to d 0 D _ (by exact hy) (by rw [ED.out]; exact (Nat.le_trans (ln_le (n := 10) (k := 1) (by decide)) (by decide : 1 ≤ 35184372088832))) (by omega) (by decide) (v := 10) (by rw [ED.out])).mono ?_
  rintro e w4 ⟨B3, rfl, h3, hb4⟩
  replace s0_0 := keepc hb4 s0_0 l0
  replace s0_1 := keepc hb4 s0_1 l0
  replace s0_2 := keepc hb4 s0_2 l0
  replace l0 := Nat.lt_of_lt_of_le l0 hb4.size
  replace hx := hx.to hb4
  replace hy := hy.to hb4
  replace HW := Lib.hid (hstep HW hb4)
  clear hb4
  go_wp2_with fail
  refine (shl_to n 53 N _ (by exact hx) (by rw [EN.out]; exact (Nat.le_trans (ln_le (n := 7) (k := 1) (by decide)) (by decide : 1 ≤ 35184372088832))) (by omega) (by decide) (v := 63050394783186944) (by rw [EN.out])).mono ?_
  rintro e w5 ⟨B4, rfl, h4, hb5⟩
  replace s0_0 := keepc hb5 s0_0 l0
  replace s0_1 := keepc hb5 s0_1 l0
  replace s0_2 := keepc hb5 s0_2 l0
  replace l0 := Nat.lt_of_lt_of_le l0 hb5.size
  replace hx := hx.to hb5
  replace hy := hy.to hb5
  replace h3 := h3.to hb5
  replace HW := Lib.hid (hstep HW hb5)
  clear hb5
  go_wp2_with fail
  refine (divn_to 63050394783186944 10 B4 B3 _ (by exact h4) (by exact h3) (Nat.le_trans (ln_le (n := 63050394783186944) (k := 2) (by decide)) (by decide : 2 ≤ 1099511627776)) (Nat.le_trans (ln_le (n := 10) (k := 1) (by decide)) (by decide : 1 ≤ 1099511627776)) (by omega) (q := 6305039478318694) (r := 4) (by decide) (by decide)).mono ?_
  rintro e w6 ⟨Q, R, rfl, hq, hr, hb6⟩
  replace s0_0 := keepc hb6 s0_0 l0
  replace s0_1 := keepc hb6 s0_1 l0
  replace s0_2 := keepc hb6 s0_2 l0
  replace l0 := Nat.lt_of_lt_of_le l0 hb6.size
  replace hx := hx.to hb6
  replace hy := hy.to hb6
  replace h3 := h3.to hb6
  replace h4 := h4.to hb6
  replace HW := Lib.hid (hstep HW hb6)
  clear hb6
  obtain ⟨qb, hQ, hqb, hqc⟩ := hq (by omega)
  subst hQ
  rw [show ln 6305039478318694 = 2 from ln_lit (by decide) (by decide) (by omega)] at hqc ⊢
  have c0 := hqc 0 (by omega)
  have c1 := hqc 1 (by omega)
  rw [show wd 6305039478318694 0 = 1717986918 by decide] at c0
  rw [show wd 6305039478318694 1 = 1468006 by decide] at c1
  clear hqc hq hqb h4
  go_wp2_with fail
  refine wp_loop_rounds 3 ?_
  rw [rounds_succ]
  go_wp2_with fail
  rw [rounds_succ]
  go_wp2_with fail
  rw [rounds_succ]
  go_wp2_with fail
  refine (shl_to 4 1 R _ (by exact hr) (Nat.le_trans (ln_le (n := 4) (k := 1) (by decide)) (by decide : 1 ≤ 35184372088832)) (by omega) (by decide) (v := 8) (by decide)).mono ?_
  rintro e w7 ⟨B5, rfl, h5, hb7⟩
  replace s0_0 := keepc hb7 s0_0 l0
  replace s0_1 := keepc hb7 s0_1 l0
  replace s0_2 := keepc hb7 s0_2 l0
  replace l0 := Nat.lt_of_lt_of_le l0 hb7.size
  replace hx := hx.to hb7
  replace hy := hy.to hb7
  replace h3 := h3.to hb7
  replace hr := hr.to hb7
  replace HW := Lib.hid (hstep HW hb7)
  clear hb7
  go_wp2_with fail
  refine (cmpn_to 8 10 B5 B3 _ (by exact h5) (by exact h3) (Nat.le_trans (ln_le (n := 8) (k := 1) (by decide)) (by decide : 1 ≤ 35184372088832)) (c := -1) (by decide)).mono ?_
  rintro e w8 ⟨rfl, hb8⟩
  replace s0_0 := keepc hb8 s0_0 l0
  replace s0_1 := keepc hb8 s0_1 l0
  replace s0_2 := keepc hb8 s0_2 l0
  replace l0 := Nat.lt_of_lt_of_le l0 hb8.size
  replace hx := hx.to hb8
  replace hy := hy.to hb8
  replace h3 := h3.to hb8
  replace hr := hr.to hb8
  replace h5 := h5.to hb8
  replace HW := Lib.hid (hstep HW hb8)
  clear hb8
  go_wp2_with fail
  refine (ldexp_b _).mono ?_
  rintro e w9 ⟨rfl, rfl⟩
  go_wp2_with fail
  exact bodyPost_ret (v := .float .f64 4604480259023595110) (by simp [results, Tryz.results144, go_sem]) rfl ⟨rfl, HW.out⟩

end Go.Proofs.YtgpmlhpgdalheaaGreat
