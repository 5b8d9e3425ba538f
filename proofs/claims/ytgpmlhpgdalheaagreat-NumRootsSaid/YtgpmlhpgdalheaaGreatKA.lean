/- 'Num.Re'. The program's len. Plain arithmetic: the whole root, Newton's step. No program is in sight. The program's 'root' and 'square'. The program's 'rational'. Plain arithmetic of roots: of fractions, of complex numbers with fractions as parts. No program is in sight. The program's 'Sqrt'. -/
import Derived.Test.YtgpmlhpgdalheaaGreatNDiv
import Derived.Test.YtgpmlhpgdalheaaGreatShl
import Derived.Test.YtgpmlhpgdalheaaGreatRA
import Derived.Test.YtgpmlhpgdalheaaGreatDivA
import Derived.Test.YtgpmlhpgdalheaaGreatMem
import Derived.Test.YtgpmlhpgdalheaaGreatShr
import Derived.Test.YtgpmlhpgdalheaaGreatGcd
import Derived.Deep.LoopGhost
import Derived.Test.YtgpmlhpgdalheaaGreatLawA
namespace Go.Proofs.YtgpmlhpgdalheaaGreat
open Go.RowKit Pl
set_option linter.unusedVariables false
set_option linter.unusedSimpArgs false

theorem sz_re {K : Nat} {x : Cx} (hx : sz K x) : sz K x.reOf := by
  rw [← re_fr]; exact fr_sz (nd_ne0 x) hx.1 (by show ln 0 ≤ K; rw [ln_zero]; omega) hx.2.2
set_option maxHeartbeats 4000000 in
theorem re_num (x : Cx) (A1 A2 A3 : Option Addr) (w : World) (hx : Num3 w A1 A2 A3 x) (hsx : sz 137438953472 x) :
    Calls Tryz.prog 40 #[.agg #[.bool (sn (na x)), .slice A1 (ln (ab (na x))) (ln (ab (na x))), .bool (sn (nb x)), .slice A2 (ln (ab (nb x))) (ln (ab (nb x))), .slice A3 (ln (un x)) (ln (un x))]] w (RetNum w x.reOf) := by
  obtain ⟨hx1, hx2, hx3⟩ := hx
  have HSX := Lib.hid hsx
  clear hsx
  rw [← re_fr]
  go_enter Tryz.func40, Tryz.ntmps40
  go_wp2_with fail
  obtain ⟨W, hW⟩ : ∃ W : World, W = ((w.alloc (.cells #[.bool (sn (na x)), .slice A1 (ln (ab (na x))) (ln (ab (na x))), .bool (sn (nb x)), .slice A2 (ln (ab (nb x))) (ln (ab (nb x))), .slice A3 (ln (un x)) (ln (un x))] 30)).alloc (.cells #[.bool false, .slice none 0 0, .bool false, .slice none 0 0, .slice none 0 0] 30)) := ⟨_, rfl⟩
  have s0_0 : W.cell? ⟨w.heap.size, 0, none⟩ = some (.bool (sn (na x))) := by subst hW; go_simp
  have s0_1 : W.cell? ⟨w.heap.size, 1, none⟩ = some (.slice A1 (ln (ab (na x))) (ln (ab (na x)))) := by subst hW; go_simp
  have s0_2 : W.cell? ⟨w.heap.size, 2, none⟩ = some (.bool (sn (nb x))) := by subst hW; go_simp
  have s0_3 : W.cell? ⟨w.heap.size, 3, none⟩ = some (.slice A2 (ln (ab (nb x))) (ln (ab (nb x)))) := by subst hW; go_simp
  have s0_4 : W.cell? ⟨w.heap.size, 4, none⟩ = some (.slice A3 (ln (un x)) (ln (un x))) := by subst hW; go_simp
  have r0 : W.cell? ⟨w.heap.size + 1, 0, none⟩ = some (.bool false) := by subst hW; go_simp
  have f0 : W.frozen? ⟨w.heap.size + 1, 0, none⟩ = false := by subst hW; go_simp
  have r1 : W.cell? ⟨w.heap.size + 1, 1, none⟩ = some (.slice none 0 0) := by subst hW; go_simp
  have f1 : W.frozen? ⟨w.heap.size + 1, 1, none⟩ = false := by subst hW; go_simp
  have r2 : W.cell? ⟨w.heap.size + 1, 2, none⟩ = some (.bool false) := by subst hW; go_simp
  have f2 : W.frozen? ⟨w.heap.size + 1, 2, none⟩ = false := by subst hW; go_simp
  have r3 : W.cell? ⟨w.heap.size + 1, 3, none⟩ = some (.slice none 0 0) := by subst hW; go_simp
  have f3 : W.frozen? ⟨w.heap.size + 1, 3, none⟩ = false := by subst hW; go_simp
  have r4 : W.cell? ⟨w.heap.size + 1, 4, none⟩ = some (.slice none 0 0) := by subst hW; go_simp
  have f4 : W.frozen? ⟨w.heap.size + 1, 4, none⟩ = false := by subst hW; go_simp
  have HW : Below w.heap.size w W := by subst hW; exact (((Below.refl w.heap.size w).alloc (Nat.le_refl _) _).alloc (by simp) _)
  have l0 : w.heap.size < W.heap.size := by subst hW; simp <;> omega
  have l1 : w.heap.size + 1 < W.heap.size := by subst hW; simp
  have n0 : w.heap.size ≠ w.heap.size + 1 := by omega
  replace hx1 := hx1.to HW
  replace hx2 := hx2.to HW
  replace hx3 := hx3.to HW
  rw [← hW]
  clear hW
  replace HW := Lib.hid HW
  go_region_held3 (fun w' => w'.cell? ⟨w.heap.size, 0, none⟩ = some (.bool (sn (na x))) ∧ w'.cell? ⟨w.heap.size, 1, none⟩ = some (.slice A1 (ln (ab (na x))) (ln (ab (na x)))) ∧ w'.cell? ⟨w.heap.size, 2, none⟩ = some (.bool (sn (nb x))) ∧ w'.cell? ⟨w.heap.size, 3, none⟩ = some (.slice A2 (ln (ab (nb x))) (ln (ab (nb x)))) ∧ w'.cell? ⟨w.heap.size, 4, none⟩ = some (.slice A3 (ln (un x)) (ln (un x)))) (first | with_reducible exact ⟨s0_0, s0_1, s0_2, s0_3, s0_4⟩ | with_reducible exact ⟨(keeps (keeps (keeps (keeps (keeps s0_0 n0) n0) n0) n0) n0), (keeps (keeps (keeps (keeps (keeps s0_1 n0) n0) n0) n0) n0), (keeps (keeps (keeps (keeps (keeps s0_2 n0) n0) n0) n0) n0), (keeps (keeps (keeps (keeps (keeps s0_3 n0) n0) n0) n0) n0), (keeps (keeps (keeps (keeps (keeps s0_4 n0) n0) n0) n0) n0)⟩ | exact ⟨s0_0, s0_1, s0_2, s0_3, s0_4⟩) (first
    | (go_at_call 89; refine (den_any x A1 A2 A3 _ (by exact num3_mk hx1 hx2 hx3)).mono ?_; rintro e w1 ⟨D1, rfl, h1, hb1⟩; have hb1 := undrew hb1; replace s0_0 := keepc hb1 s0_0 l0; replace s0_1 := keepc hb1 s0_1 l0; replace s0_2 := keepc hb1 s0_2 l0; replace s0_3 := keepc hb1 s0_3 l0; replace s0_4 := keepc hb1 s0_4 l0; replace r0 := keepc hb1 r0 l1; replace f0 := keepf hb1 f0 l1; replace r1 := keepc hb1 r1 l1; replace f1 := keepf hb1 f1 l1; replace r2 := keepc hb1 r2 l1; replace f2 := keepf hb1 f2 l1; replace r3 := keepc hb1 r3 l1; replace f3 := keepf hb1 f3 l1; replace r4 := keepc hb1 r4 l1; replace f4 := keepf hb1 f4 l1; replace l0 := Nat.lt_of_lt_of_le l0 hb1.size; replace l1 := Nat.lt_of_lt_of_le l1 hb1.size; replace hx1 := hx1.to hb1; replace hx2 := hx2.to hb1; replace hx3 := hx3.to hb1; replace HW := Lib.hid (hstep HW hb1); clear hb1)
    | (go_at_call 96; refine (over0_any (na x) (nd x) A1 D1 _ (by exact hx1) (by exact h1) (by have := HSX.out; unfold sz at this; omega) (by have := HSX.out; unfold sz at this; omega) (nd_ne0 x)).mono ?_; rintro e w2 ⟨Z1, Z2, Z3, rfl, h2, hb2⟩; replace s0_0 := keepc hb2 s0_0 l0; replace s0_1 := keepc hb2 s0_1 l0; replace s0_2 := keepc hb2 s0_2 l0; replace s0_3 := keepc hb2 s0_3 l0; replace s0_4 := keepc hb2 s0_4 l0; replace r0 := keepc hb2 r0 l1; replace f0 := keepf hb2 f0 l1; replace r1 := keepc hb2 r1 l1; replace f1 := keepf hb2 f1 l1; replace r2 := keepc hb2 r2 l1; replace f2 := keepf hb2 f2 l1; replace r3 := keepc hb2 r3 l1; replace f3 := keepf hb2 f3 l1; replace r4 := keepc hb2 r4 l1; replace f4 := keepf hb2 f4 l1; replace l0 := Nat.lt_of_lt_of_le l0 hb2.size; replace l1 := Nat.lt_of_lt_of_le l1 hb2.size; replace hx1 := hx1.to hb2; replace hx2 := hx2.to hb2; replace hx3 := hx3.to hb2; replace h1 := h1.to hb2; replace HW := Lib.hid (hstep HW hb2); clear hb2))
  go_wp2_with fail
  exact bodyPost_ret (v := .agg #[.bool (sn (na (fr (na x) 0 (nd x)))), .slice Z1 (ln (ab (na (fr (na x) 0 (nd x))))) (ln (ab (na (fr (na x) 0 (nd x))))), .bool (sn (nb (fr (na x) 0 (nd x)))), .slice Z2 (ln (ab (nb (fr (na x) 0 (nd x))))) (ln (ab (nb (fr (na x) 0 (nd x))))), .slice Z3 (ln (un (fr (na x) 0 (nd x)))) (ln (un (fr (na x) 0 (nd x))))]) (by simp [results, Tryz.results40, go_sem, r0, r1, r2, r3, r4, f0, f1, f2, f3, f4]) rfl (retNum_fin HW h2 (by omega) r0)

end Go.Proofs.YtgpmlhpgdalheaaGreat

namespace Go.Proofs.YtgpmlhpgdalheaaGreat
open Go.RowKit Pl
set_option linter.unusedVariables false
set_option linter.unusedSimpArgs false

theorem nbits_log2 {y : Nat} (hy : y ≠ 0) : nbits y = y.log2 + 1 := by
  have ht := top_word hy
  have hw := wd_lt y (ln y - 1)
  have hl := wd_last hy
  unfold nbits
  rw [if_neg hy]
  generalize ln y - 1 = k at *
  obtain ⟨h1, h2, h3⟩ := Lib.bitLenAux_bounds 64 (wd y k) (Nat.lt_trans hw (by decide)) hl
  have e : Lib.bitLenAux 64 (wd y k) = Lib.bitLen (wd y k) := rfl
  rw [e] at h1 h2 h3
  generalize Lib.bitLen (wd y k) = b at *
  have hB : (4294967296 : Nat) ^ k = 2 ^ (32 * k) := by rw [Nat.pow_mul]
  have hp : 0 < 4294967296 ^ k := Nat.pow_pos (by omega)
  have a1 : wd y k * 4294967296 ^ k ≤ y := by rw [ht]; exact Nat.div_mul_le_self _ _
  have a2 : y < (wd y k + 1) * 4294967296 ^ k := by rw [ht, Nat.mul_comm]; exact Nat.lt_mul_div_succ _ hp
  have b1 : 2 ^ (b - 1) * 4294967296 ^ k ≤ y := Nat.le_trans (Nat.mul_le_mul_right _ h2) a1
  have b2 : y < 2 ^ b * 4294967296 ^ k := Nat.lt_of_lt_of_le a2 (Nat.mul_le_mul_right _ h3)
  rw [hB, ← Nat.pow_add] at b1 b2
  have : y.log2 = 32 * k + (b - 1) := by
    rw [Nat.log2_eq_iff hy]
    exact ⟨by rw [show 32 * k + (b - 1) = b - 1 + 32 * k by omega]; exact b1, by rw [show 32 * k + (b - 1) + 1 = b + 32 * k by omega]; exact b2⟩
  omega
set_option maxHeartbeats 1000000 in
/-- 'x.len()'. -/
theorem len_num (y : Nat) (A : Option Addr) (w : World) (hy : Nat32 w A y) (hby : ln y ≤ 35184372088832) :
    Calls Tryz.prog 183 #[.slice A (ln y) (ln y)] w fun e w' => e = .returned (.int .i64 (nbits y : Nat)) ∧ w' = w := by
  by_cases hy0 : y = 0
  · have H := Lib.hid (show nbits y = 0 by rw [hy0]; rfl)
    have t1 : ((ln y : Int) == 0) = true := by rw [hy0, ln_zero]; rfl
    clear hy0
    go_enter Tryz.func183, Tryz.ntmps183
    go_wp2_with fail
    go_ret
    exact ⟨by rw [H.out]; rfl, rfl⟩
  · have lx := ln_pos hy0
    have t1 : ((ln y : Int) == 0) = false := by simpa using fun e => by omega
    obtain ⟨b, rfl, hb, hc⟩ := hy hy0
    have hxk := hc (ln y - 1) (by omega)
    have HB := Lib.hid (show nbits y = 32 * (ln y - 1) + Lib.bitLen (wd y (ln y - 1)) by unfold nbits; rw [if_neg hy0])
    have bw := wd_lt y (ln y - 1)
    have HBL := Lib.hid (Lib.bitLen_le _ 32 (by omega) bw)
    have BW := Lib.hid bw
    clear hc hy0
    go_enter Tryz.func183, Tryz.ntmps183
    go_wp2_with fail
    refine (Tryz.bits_Len32 (wd y (ln y - 1) : Int) w (by omega) (by have := BW.out; omega)).mono ?_
    rintro e w1 ⟨rfl, rfl⟩
    rw [show ((wd y (ln y - 1) : Int).toNat) = wd y (ln y - 1) by omega]
    go_wp2_with fail
    go_ret
    exact ⟨ret_int (by rw [HB.out]; have := HBL.out; simp [wrap64]; omega), rfl⟩
end Go.Proofs.YtgpmlhpgdalheaaGreat

namespace Go.Proofs.YtgpmlhpgdalheaaGreat
set_option linter.unusedVariables false
namespace Pl
/-- The greatest number whose square is not above n. -/
def rt : Nat → Nat
  | 0 => 0
  | n + 1 => if (rt n + 1) * (rt n + 1) ≤ n + 1 then rt n + 1 else rt n
theorem rt_spec (n : Nat) : rt n * rt n ≤ n ∧ n < (rt n + 1) * (rt n + 1) := by
  induction n with
  | zero => exact ⟨by decide, by decide⟩
  | succ n ih =>
    obtain ⟨h1, h2⟩ := ih
    unfold rt
    by_cases h : (rt n + 1) * (rt n + 1) ≤ n + 1
    · rw [if_pos h]
      refine ⟨h, ?_⟩
      have e : (rt n + 1 + 1) * (rt n + 1 + 1) = (rt n + 1) * (rt n + 1) + (rt n + 1) + (rt n + 1) + 1 := by
        simp only [Nat.add_mul, Nat.mul_add]; omega
      omega
    · rw [if_neg h]
      omega
theorem sq_le {a b : Nat} (h : a ≤ b) : a * a ≤ b * b := Nat.mul_le_mul h h
theorem rt_max {r n : Nat} (h : r * r ≤ n) : r ≤ rt n := by
  refine Nat.not_lt.1 fun h2 => ?_
  have h3 : (rt n + 1) * (rt n + 1) ≤ r * r := sq_le h2
  have := (rt_spec n).2
  omega
theorem rt_self (n : Nat) : rt n ≤ n := by
  have h := (rt_spec n).1
  rcases Nat.eq_zero_or_pos (rt n) with h0 | h0
  · omega
  · exact Nat.le_trans (Nat.le_mul_of_pos_left _ h0) h
/-- A square has its root. -/
theorem rt_sq {n k : Nat} (h : k * k = n) : rt n = k := by
  have h1 := rt_max (Nat.le_of_eq h)
  have h2 := (rt_spec n).1
  refine Nat.le_antisymm (Nat.not_lt.1 fun h3 => ?_) h1
  have h4 : (k + 1) * (k + 1) ≤ rt n * rt n := sq_le h3
  have e : (k + 1) * (k + 1) = k * k + k + k + 1 := by simp only [Nat.add_mul, Nat.mul_add]; omega
  omega
/-- Newton's step does not fall below the root. -/
theorem nw_ge {n r : Nat} (hr : 0 < r) : rt n ≤ (r + n / r) / 2 := by
  obtain ⟨s, hs⟩ : ∃ s, s = rt n := ⟨_, rfl⟩
  have h1 := (rt_spec n).1
  rw [← hs] at h1 ⊢
  have h2 : n < r * (n / r + 1) := Nat.lt_mul_div_succ n hr
  obtain ⟨q, hq⟩ : ∃ q, q = n / r := ⟨_, rfl⟩
  rw [← hq] at h2 ⊢
  refine (Nat.le_div_iff_mul_le (by omega)).2 (Nat.not_lt.1 fun h3 => ?_)
  rcases Nat.le_total r s with h | h
  · obtain ⟨t, rfl⟩ := Nat.exists_eq_add_of_le h
    have e1 : r * (q + 1) ≤ r * (r + t + t) := Nat.mul_le_mul_left r (by omega)
    have e2 : (r + t) * (r + t) = r * (r + t + t) + t * t := by
      simp only [Nat.add_mul, Nat.mul_add, Nat.mul_comm t r]; omega
    omega
  · obtain ⟨t, rfl⟩ := Nat.exists_eq_add_of_le h
    have e1 : (s + t) * (q + 1) + (s + t) * t ≤ (s + t) * s := by
      rw [← Nat.mul_add]; exact Nat.mul_le_mul_left _ (by omega)
    have e2 : (s + t) * s + t * t = s * s + (s + t) * t := by
      simp only [Nat.add_mul, Nat.mul_comm t s]; omega
    omega
theorem nw_stop {n r : Nat} (hr : 0 < r) (h : r ≤ (r + n / r) / 2) : r ≤ rt n := by
  refine rt_max ?_
  have h1 : r ≤ n / r := by omega
  exact Nat.le_trans (Nat.mul_le_mul_left r h1) (Nat.mul_div_le n r)
theorem nw_start {n b : Nat} (h : n < 2 ^ b) : rt n ≤ 2 ^ ((b + 1) / 2) := by
  refine Nat.not_lt.1 fun h2 => ?_
  have h3 := sq_le (Nat.le_of_lt h2)
  have h4 := (rt_spec n).1
  rw [← Nat.pow_add] at h3
  have h5 : 2 ^ b ≤ 2 ^ ((b + 1) / 2 + (b + 1) / 2) := Nat.pow_le_pow_right (by omega) (by omega)
  omega
theorem nw_small {n r : Nat} (hr : 0 < r) (h : rt n ≤ r) (h2 : ¬ r ≤ (r + n / r) / 2) : (r + n / r) / 2 < r ∧ rt n ≤ (r + n / r) / 2 := ⟨by omega, nw_ge hr⟩
end Pl
end Go.Proofs.YtgpmlhpgdalheaaGreat

namespace Go.Proofs.YtgpmlhpgdalheaaGreat
open Go.RowKit Pl
set_option linter.unusedVariables false
set_option linter.unusedSimpArgs false

theorem shl_o (k U : Nat) (hU : U = 2 ^ k) (B : Option Addr) (w : World) (hy : Nat32 w B 1) (hk : k ≤ 1099511627776) :
    Calls Tryz.prog 114 #[.slice B 1 1, .int .i64 (k : Nat)] w (RetNat w U) := by
  have h := shl_any 1 k B w hy (by rw [ln_one]; omega) hk
  rw [ln_one, Nat.one_mul, ← hU] at h
  exact h
theorem shr_o (x L : Nat) (hL : L = x / 2) (A : Option Addr) (w : World) (hx : Nat32 w A x) (hb : ln x ≤ 35184372088832) :
    Calls Tryz.prog 191 #[.slice A (ln x) (ln x), .int .i64 1] w (RetNat w L) := by
  have h := shr_any x 1 A w hx hb (by omega)
  rw [Nat.pow_one, ← hL] at h
  exact h
theorem add_o (x y L : Nat) (hL : L = x + y) (A B : Option Addr) (w : World) (hx : Nat32 w A x) (hy : Nat32 w B y) (hbx : ln x ≤ 35184372088832) (hby : ln y ≤ 35184372088832) :
    Calls Tryz.prog 160 #[.slice A (ln x) (ln x), .slice B (ln y) (ln y)] w (RetNat w L) := by
  subst hL; exact add_any x y A B w hx hy hbx hby
theorem ln_start {x U k N : Nat} (hx : x ≠ 0) (hN : N = nbits x) (hk : k = (N + 1) / 2) (hU : U = 2 ^ k) : rt x ≤ U ∧ ln U ≤ ln x + 1 ∧ 0 < U ∧ N ≤ 32 * ln x := by
  have h1 := nbits_log2 hx
  have h2 : x < 2 ^ nbits x := by rw [h1]; exact Nat.lt_log2_self
  have h3 : x.log2 < 32 * ln x := (Nat.log2_lt hx).2 (by
    have := lt_of_ln (Nat.le_refl (ln x))
    rwa [show (4294967296 : Nat) = 2 ^ 32 by decide, ← Nat.pow_mul] at this)
  rw [← hN] at h1 h2
  refine ⟨by rw [hU, hk]; exact nw_start h2, ?_, by rw [hU]; exact Nat.pow_pos (by omega), by omega⟩
  rw [hU]
  refine ln_le ?_
  rw [show (4294967296 : Nat) = 2 ^ 32 by decide, ← Nat.pow_mul]
  exact Nat.pow_lt_pow_right (by omega) (by omega)
set_option maxHeartbeats 2000000 in
/-- 'x.root()'. -/
theorem root_any (x : Nat) (A : Option Addr) (w : World) (hx : Nat32 w A x) (hbx : ln x ≤ 17179869184) :
    Calls Tryz.prog 170 #[.slice A (ln x) (ln x)] w (RetNat w (rt x)) := by
  by_cases h0 : x = 0
  · have t1 : ((ln x : Int) == 0) = true := by rw [h0, ln_zero]; rfl
    have H : Hid (RetNat w (rt x) (.returned (.slice none 0 0)) w) := Lib.hid ⟨none, by rw [h0, show rt 0 = 0 from rfl, ln_zero], by rw [h0]; exact Nat32.zero _ _, Below.refl _ _⟩
    clear hx h0
    go_enter Tryz.func170, Tryz.ntmps170
    go_wp2_with fail
    go_ret
    exact H.out
  · have lx := ln_pos h0
    have t1 : ((ln x : Int) == 0) = false := by rw [beq_eq_false_iff_ne]; omega
    obtain ⟨N, hN⟩ : ∃ N, N = nbits x := ⟨_, rfl⟩
    obtain ⟨k, hk⟩ : ∃ k, k = (N + 1) / 2 := ⟨_, rfl⟩
    obtain ⟨U, hU⟩ : ∃ U, U = 2 ^ k := ⟨_, rfl⟩
    obtain ⟨m1, m2, m3, m4⟩ := ln_start h0 hN hk hU
    have kb : k ≤ 1099511627776 := by omega
    have d1 : ((N : Int) + 1).tdiv 2 = (k : Int) := by rw [hk, Int.tdiv_eq_ediv_of_nonneg (by omega)]; omega
    have d2 : ((N : Int) + 1) / 2 = (k : Int) := by rw [hk]; omega
    have Nb : N ≤ 35184372088832 := by omega
    have HU := Lib.hid hU
    have HM := Lib.hid (And.intro m1 (And.intro m2 m3))
    have HN := Lib.hid hN.symm
    have HX := Lib.hid hbx
    have H0 := Lib.hid h0
    clear h0 hN hk hU m1 m2 m3 m4 hbx lx
    go_enter Tryz.func170, Tryz.ntmps170
    go_wp2_with fail
    refine (len_num x A _ (by exact hx.alloc _) (Nat.le_trans HX.out (by omega))).mono ?_
    rintro e w0 ⟨rfl, hw⟩
    rw [hw, HN.out]
    clear hw w0
    go_wp2_with fail
    refine (shl_o k U HU.out _ _ (by exact nat1_new _ _) kb).mono ?_
    rintro e w1 ⟨A1, rfl, h1, hb1⟩
    have hb := unalloc hb1
    have hx1 := hx.to hb
    clear hb1 d1 d2 Nb kb
    go_wp2_with fail
    go_loopg [3] U (fun m u wr => ∃ A', u = .slice A' (ln m) (ln m) ∧ Nat32 wr A' m ∧ Hid (rt x ≤ m ∧ m ≤ U ∧ 0 < m) ∧ Nat32 wr A x ∧ Below w.heap.size w wr)
    case atStart => exact ⟨A1, rfl, h1, Lib.hid ⟨HM.out.1, Nat.le_refl _, HM.out.2.2⟩, hx1, hb⟩
    case round =>
      obtain ⟨A', rfl, hA, hm, hX, hbb⟩ := hrel
      clear hx hx1 h1 hb
      have HB := Lib.hid hbb
      clear hbb
      have lm : Hid (ln gk ≤ 17179869185) := Lib.hid (Nat.le_trans (ln_mono hm.out.2.1) (Nat.le_trans HM.out.2.1 (by have := HX.out; omega)))
      obtain ⟨S, hS⟩ : ∃ S, S = gk + x / gk := ⟨_, rfl⟩
      obtain ⟨nx, hnx⟩ : ∃ nx, nx = S / 2 := ⟨_, rfl⟩
      have lq : Hid (ln (x / gk) ≤ 17179869184) := Lib.hid (Nat.le_trans (ln_mono (Nat.div_le_self _ _)) HX.out)
      have lS : Hid (ln S ≤ 1099511627778) := Lib.hid (by rw [hS]; have := ln_add gk (x / gk); have := lm.out; have := lq.out; omega)
      have HS := Lib.hid hS
      have HNX := Lib.hid hnx
      have hnn : nx = (gk + x / gk) / 2 := by rw [hnx, hS]
      have HNN := Lib.hid hnn
      clear hS hnx hnn
      go_wp2_with fail
      refine (div_any x gk A A' wr hX hA (Nat.le_trans HX.out (by omega)) (Nat.le_trans lm.out (by omega)) (Nat.ne_of_gt hm.out.2.2)).mono ?_
      rintro e w1 ⟨AQ, AR, rfl, hQ, hR, hb1⟩
      replace hA := hA.to hb1
      replace hX := hX.to hb1
      replace HB := Lib.hid (hstep HB hb1)
      clear hb1 hR
      go_wp2_with fail
      refine (add_o gk (x / gk) S HS.out A' AQ _ (by exact hA) (by exact hQ) (Nat.le_trans lm.out (by omega)) (Nat.le_trans lq.out (by omega))).mono ?_
      rintro e w2 ⟨A2, rfl, h2, hb2⟩
      replace hA := hA.to hb2
      replace hX := hX.to hb2
      replace HB := Lib.hid (hstep HB hb2)
      clear hb2
      go_wp2_with fail
      refine (shr_o S nx HNX.out A2 _ (by exact h2) (Nat.le_trans lS.out (by omega))).mono ?_
      rintro e w3 ⟨A3, rfl, h3, hb3⟩
      replace hA := hA.to hb3
      replace hX := hX.to hb3
      replace HB := Lib.hid (hstep HB hb3)
      clear hb3 h2
      have ln3 : Hid (ln nx ≤ 35184372088832) := Lib.hid (Nat.le_trans (ln_mono (by rw [HNX.out]; exact Nat.div_le_self _ _)) (Nat.le_trans lS.out (by omega)))
      go_wp2_with fail
      refine (cmp_any nx gk A3 A' _ (by exact h3) (by exact hA) ln3.out).mono ?_
      rintro e w4 ⟨rfl, hb4⟩
      replace hA := hA.to hb4
      replace hX := hX.to hb4
      replace h3 := h3.to hb4
      replace HB := Lib.hid (hstep HB hb4)
      clear hb4
      by_cases hc : nx < gk
      · have c1 : decide (0 ≤ cmpN nx gk) = false := by rw [cmpN_lt hc]; rfl
        have hlt := Lib.hid hc
        have hsm := Lib.hid (nw_small (n := x) hm.out.2.2 hm.out.1 (by rw [← HNN.out]; omega))
        clear hc
        go_wp2_with fail
        go_roundg nx
        case measure => exact hlt.out
        case rel =>
          refine ⟨A3, rfl, h3, Lib.hid ⟨by rw [HNN.out]; exact hsm.out.2, Nat.le_trans (Nat.le_of_lt hlt.out) hm.out.2.1, ?_⟩, hX, HB.out⟩
          have r1 : 0 < rt x := Nat.pos_of_ne_zero fun e => by
            have := (rt_spec x).2; rw [e] at this; have := H0.out; omega
          have := hsm.out.2; rw [← HNN.out] at this; omega
      · have c1 : decide (0 ≤ cmpN nx gk) = true := by
          unfold cmpN; rw [if_neg hc]; split <;> rfl
        have he : Hid (gk = rt x) := Lib.hid (Nat.le_antisymm (nw_stop hm.out.2.2 (by rw [← HNN.out]; omega)) hm.out.1)
        clear hc
        go_wp2_with fail
        go_ret
        rw [← he.out]
        exact ⟨A', rfl, hA, HB.out⟩
/-- A call hands back a number in words and a truth value. -/
def RetNatB (w : World) (n : Nat) (b : Bool) (e : Ending) (w' : World) : Prop := ∃ A, e = .returned (.tuple #[.slice A (ln n) (ln n), .bool b]) ∧ Nat32 w' A n ∧ Below w.heap.size w w'
/-- Is it a square? -/
def isq (x : Nat) : Bool := decide (rt x * rt x = x)
set_option maxHeartbeats 2000000 in
/-- 'x.square()'. -/
theorem square_any (x : Nat) (A : Option Addr) (w : World) (hx : Nat32 w A x) (hbx : ln x ≤ 17179869184) :
    Calls Tryz.prog 133 #[.slice A (ln x) (ln x)] w (RetNatB w (rt x) (isq x)) := by
  have lr : Hid (ln (rt x) ≤ 17179869184) := Lib.hid (Nat.le_trans (ln_mono (rt_self x)) hbx)
  have HX := Lib.hid hbx
  have hc : (cmpN (rt x * rt x) x == 0) = isq x := by
    unfold isq cmpN
    rw [Bool.eq_iff_iff, beq_iff_eq, decide_eq_true_eq]
    split <;> (try split) <;> constructor <;> intro h <;> first | omega | (exfalso; omega)
  obtain ⟨b, hb⟩ : ∃ b, b = isq x := ⟨_, rfl⟩
  obtain ⟨r, hr⟩ : ∃ r, r = rt x := ⟨_, rfl⟩
  rw [← hr] at lr
  rw [← hr, ← hb] at hc
  have RR := Lib.hid (fun w (hx : Nat32 w A x) => root_any x A w hx hbx)
  rw [← hr] at RR
  rw [← hr, ← hb]
  clear hbx hr hb
  go_enter Tryz.func133, Tryz.ntmps133
  go_wp2_with fail
  refine (RR.out _ (by exact hx)).mono ?_
  rintro e w1 ⟨A1, rfl, h1, hb1⟩
  replace hx := hx.to hb1
  have HB := Lib.hid hb1
  clear hb1
  go_wp2_with fail
  refine (mul_any r r A1 A1 _ (by exact h1) (by exact h1) (Nat.le_trans lr.out (by omega)) (Nat.le_trans lr.out (by omega))).mono ?_
  rintro e w2 ⟨A2, rfl, h2, hb2⟩
  replace hx := hx.to hb2
  replace h1 := h1.to hb2
  replace HB := Lib.hid (hstep HB hb2)
  clear hb2
  go_wp2_with fail
  refine (cmp_any (r * r) x A2 A _ (by exact h2) (by exact hx) (Nat.le_trans (ln_mul r r) (by have := lr.out; omega))).mono ?_
  rintro e w3 ⟨rfl, hb3⟩
  replace h1 := h1.to hb3
  replace HB := Lib.hid (hstep HB hb3)
  clear hb3
  go_wp2_with fail
  go_ret2
  exact ⟨A1, rfl, h1, HB.out⟩
end Go.Proofs.YtgpmlhpgdalheaaGreat

namespace Go.Proofs.YtgpmlhpgdalheaaGreat
open Go.RowKit Pl
set_option linter.unusedVariables false
set_option linter.unusedSimpArgs false

/-- A call hands back a number and a truth value. -/
def RetNumB (w : World) (b : Bool) (q : Cx) (e : Ending) (w' : World) : Prop := ∃ A1 A2 A3, e = .returned (.tuple #[.agg #[.bool (sn (na q)), .slice A1 (ln (ab (na q))) (ln (ab (na q))), .bool (sn (nb q)), .slice A2 (ln (ab (nb q))) (ln (ab (nb q))), .slice A3 (ln (un q)) (ln (un q))], .bool b]) ∧ Num3 w' A1 A2 A3 q ∧ Below w.heap.size w w'
theorem retNumB_fin {w W : World} {q : Cx} {A1 A2 A3 : Option Addr} {R : Nat} {c b : Bool} (hB : Hid (Below w.heap.size w W)) (h1 : Num3 W A1 A2 A3 q) (hR : w.heap.size ≤ R) (r0 : W.cell? ⟨R, 0, none⟩ = some (.bool c)) :
    RetNumB w b q (.returned (.tuple #[.agg #[.bool (sn (na q)), .slice A1 (ln (ab (na q))) (ln (ab (na q))), .bool (sn (nb q)), .slice A2 (ln (ab (nb q))) (ln (ab (nb q))), .slice A3 (ln (un q)) (ln (un q))], .bool b]))
      (((((W.setCell ⟨R, 0, none⟩ (.bool (sn (na q)))).setCell ⟨R, 1, none⟩ (.slice A1 (ln (ab (na q))) (ln (ab (na q))))).setCell ⟨R, 2, none⟩ (.bool (sn (nb q)))).setCell ⟨R, 3, none⟩ (.slice A2 (ln (ab (nb q))) (ln (ab (nb q))))).setCell ⟨R, 4, none⟩ (.slice A3 (ln (un q)) (ln (un q)))) := by
  obtain ⟨B1, B2, B3, e, h⟩ := retNum_fin (A1 := A1) (A2 := A2) (A3 := A3) hB h1 hR r0
  exact ⟨B1, B2, B3, ret_and e, h⟩
/-- The root of a fraction: is there one, and which. -/
def ratB (n d : Nat) : Bool := isq (n / Nat.gcd n d) && isq (d / Nat.gcd n d)
def ratQ (n d : Nat) : Cx := if ratB n d = true then fr (rt (n / Nat.gcd n d) : Int) 0 (rt (d / Nat.gcd n d)) else Cx.zero
theorem square_nm (x r : Nat) (b : Bool) (hr : rt x = r) (hb : isq x = b) (A : Option Addr) (w : World) (hx : Nat32 w A x) (hbx : ln x ≤ 17179869184) :
    Calls Tryz.prog 133 #[.slice A (ln x) (ln x)] w (RetNatB w r b) := by
  subst hr hb; exact square_any x A w hx hbx
theorem gcd_nm (x y g : Nat) (hg : Nat.gcd x y = g) (A B : Option Addr) (w : World) (hx : Nat32 w A x) (hy : Nat32 w B y) (hbx : ln x ≤ 1099511627776) (hby : ln y ≤ 1099511627776) :
    Calls Tryz.prog 157 #[.slice A (ln x) (ln x), .slice B (ln y) (ln y)] w (RetNat w g) := by
  subst hg; exact gcd_any x y A B w hx hy hbx hby
theorem div_nm (x y q : Nat) (hq : x / y = q) (A B : Option Addr) (w : World) (hx : Nat32 w A x) (hy : Nat32 w B y) (hbx : ln x ≤ 1099511627776) (hby : ln y ≤ 1099511627776) (hy0 : y ≠ 0) :
    Calls Tryz.prog 159 #[.slice A (ln x) (ln x), .slice B (ln y) (ln y)] w (RetNat2 w q (x % y)) := by
  subst hq; exact div_any x y A B w hx hy hbx hby hy0
theorem wholeOf_pos (n : Nat) (A : Option Addr) (w : World) (h : Nat32 w A n) :
    Calls Tryz.prog 123 #[.bool false, .slice A (ln n) (ln n)] w (RetWhole w (n : Int)) := wholeOf_any false n A w h
set_option maxHeartbeats 4000000 in
theorem rational_any (n d : Nat) (A D : Option Addr) (w : World) (hx : Nat32 w A n) (hy : Nat32 w D d) (hbx : ln n ≤ 17179869184) (hby : ln d ≤ 17179869184) (hd : d ≠ 0) :
    Calls Tryz.prog 132 #[.slice A (ln n) (ln n), .slice D (ln d) (ln d)] w (RetNumB w (ratB n d) (ratQ n d)) := by
  obtain ⟨g, hg⟩ : ∃ g, Nat.gcd n d = g := ⟨_, rfl⟩
  have g0 : Hid (g ≠ 0) := Lib.hid (by rw [← hg]; exact Nat.ne_of_gt (Nat.gcd_pos_of_pos_right _ (by omega)))
  have lg : Hid (ln g ≤ 17179869184) := Lib.hid (by rw [← hg]; exact Nat.le_trans (ln_mono (Nat.le_of_dvd (by omega) (Nat.gcd_dvd_right n d))) hby)
  obtain ⟨a, ha⟩ : ∃ a, n / g = a := ⟨_, rfl⟩
  obtain ⟨b, hb⟩ : ∃ b, d / g = b := ⟨_, rfl⟩
  have b0 : Hid (b ≠ 0) := Lib.hid (by rw [← hb, ← hg]; have h1 := Nat.gcd_dvd_right n d; have h2 := Nat.le_of_dvd (by omega) h1; have h3 : 0 < Nat.gcd n d := Nat.gcd_pos_of_pos_right _ (by omega); exact Nat.ne_of_gt (Nat.div_pos h2 h3))
  have la : Hid (ln a ≤ 17179869184) := Lib.hid (by rw [← ha]; exact Nat.le_trans (ln_mono (Nat.div_le_self _ _)) hbx)
  have lb : Hid (ln b ≤ 17179869184) := Lib.hid (by rw [← hb]; exact Nat.le_trans (ln_mono (Nat.div_le_self _ _)) hby)
  obtain ⟨r, hr⟩ : ∃ r, rt a = r := ⟨_, rfl⟩
  obtain ⟨s, hs⟩ : ∃ s, rt b = s := ⟨_, rfl⟩
  obtain ⟨p1, hp1⟩ : ∃ p, isq a = p := ⟨_, rfl⟩
  obtain ⟨p2, hp2⟩ : ∃ p, isq b = p := ⟨_, rfl⟩
  have lr : Hid (ln r ≤ 17179869184) := Lib.hid (by rw [← hr]; exact Nat.le_trans (ln_mono (rt_self a)) la.out)
  have ls : Hid (ln s ≤ 17179869184) := Lib.hid (by rw [← hs]; exact Nat.le_trans (ln_mono (rt_self b)) lb.out)
  have s0 : Hid (s ≠ 0) := Lib.hid (by rw [← hs]; intro e; have h := (rt_spec b).2; rw [e] at h; have := b0.out; omega)
  have hB : ratB n d = (p1 && p2) := by unfold ratB; rw [hg, ha, hb, hp1, hp2]
  have hQ : ratQ n d = if (p1 && p2) = true then fr (r : Int) 0 s else Cx.zero := by unfold ratQ; rw [hB, hg, ha, hb, hr, hs]
  rw [hB, hQ]
  obtain ⟨bb, hbb⟩ : ∃ b, (p1 && p2) = b := ⟨_, rfl⟩
  rw [hbb]
  obtain ⟨QQ, hQQ⟩ : ∃ q, (if bb = true then fr (r : Int) 0 s else Cx.zero) = q := ⟨_, rfl⟩
  rw [hQQ]
  replace hbb := Lib.hid hbb
  replace hQQ := Lib.hid hQQ
  have HG := Lib.hid hg
  have HA := Lib.hid ha
  have HB := Lib.hid hb
  have HR := Lib.hid hr
  have HS := Lib.hid hs
  have HP1 := Lib.hid hp1
  have HP2 := Lib.hid hp2
  have BX := Lib.hid hbx
  have BY := Lib.hid hby
  clear hg ha hb hr hs hp1 hp2 hB hQ hbx hby hd
  go_enter Tryz.func132, Tryz.ntmps132
  go_wp2_with fail
  obtain ⟨W, hW⟩ : ∃ W : World, W = (w.alloc (.cells #[.bool false, .slice none 0 0, .bool false, .slice none 0 0, .slice none 0 0] 30)) := ⟨_, rfl⟩
  have r0 : W.cell? ⟨w.heap.size, 0, none⟩ = some (.bool false) := by subst hW; go_simp
  have f0 : W.frozen? ⟨w.heap.size, 0, none⟩ = false := by subst hW; go_simp
  have r1 : W.cell? ⟨w.heap.size, 1, none⟩ = some (.slice none 0 0) := by subst hW; go_simp
  have f1 : W.frozen? ⟨w.heap.size, 1, none⟩ = false := by subst hW; go_simp
  have r2 : W.cell? ⟨w.heap.size, 2, none⟩ = some (.bool false) := by subst hW; go_simp
  have f2 : W.frozen? ⟨w.heap.size, 2, none⟩ = false := by subst hW; go_simp
  have r3 : W.cell? ⟨w.heap.size, 3, none⟩ = some (.slice none 0 0) := by subst hW; go_simp
  have f3 : W.frozen? ⟨w.heap.size, 3, none⟩ = false := by subst hW; go_simp
  have r4 : W.cell? ⟨w.heap.size, 4, none⟩ = some (.slice none 0 0) := by subst hW; go_simp
  have f4 : W.frozen? ⟨w.heap.size, 4, none⟩ = false := by subst hW; go_simp
  have HW : Below w.heap.size w W := by subst hW; exact ((Below.refl w.heap.size w).alloc (Nat.le_refl _) _)
  have l0 : w.heap.size < W.heap.size := by subst hW; simp
  replace hx := hx.to HW
  replace hy := hy.to HW
  have rz : NewVarN 0 (w.heap.size) W := ⟨Nat.zero_le _, l0, ⟨r0, r1, r2, r3, r4⟩, f0, f1, f2, f3, f4⟩
  clear r0 r1 r2 r3 r4 f0 f1 f2 f3 f4
  rw [← hW]
  clear hW
  replace HW := Lib.hid HW
  refine (gcd_nm n d g HG.out A D _ (by exact hx) (by exact hy) (Nat.le_trans BX.out (by omega)) (Nat.le_trans BY.out (by omega))).mono ?_
  rintro e w1 ⟨G, rfl, h1, hb1⟩
  replace rz := rz.to hb1
  replace l0 := Nat.lt_of_lt_of_le l0 hb1.size
  replace hx := hx.to hb1
  replace hy := hy.to hb1
  replace HW := Lib.hid (hstep HW hb1)
  clear hb1
  go_wp2_with fail
  refine (div_nm n g a HA.out A G _ (by exact hx) (by exact h1) (Nat.le_trans BX.out (by omega)) (Nat.le_trans lg.out (by omega)) g0.out).mono ?_
  rintro e w2 ⟨A2, AR, rfl, h2, h2r, hb2⟩
  replace rz := rz.to hb2
  replace l0 := Nat.lt_of_lt_of_le l0 hb2.size
  replace hx := hx.to hb2
  replace hy := hy.to hb2
  replace h1 := h1.to hb2
  replace HW := Lib.hid (hstep HW hb2)
  clear hb2
  go_wp2_with fail
  refine (div_nm d g b HB.out D G _ (by exact hy) (by exact h1) (Nat.le_trans BY.out (by omega)) (Nat.le_trans lg.out (by omega)) g0.out).mono ?_
  rintro e w3 ⟨A3, AR3, rfl, h3, h3r, hb3⟩
  replace rz := rz.to hb3
  replace l0 := Nat.lt_of_lt_of_le l0 hb3.size
  replace hx := hx.to hb3
  replace hy := hy.to hb3
  replace h1 := h1.to hb3
  replace h2 := h2.to hb3
  replace h2r := h2r.to hb3
  replace HW := Lib.hid (hstep HW hb3)
  clear hb3
  go_wp2_with fail
  refine (square_nm a r p1 HR.out HP1.out A2 _ (by exact h2) la.out).mono ?_
  rintro e w4 ⟨A4, rfl, h4, hb4⟩
  replace rz := rz.to hb4
  replace l0 := Nat.lt_of_lt_of_le l0 hb4.size
  replace hx := hx.to hb4
  replace hy := hy.to hb4
  replace h1 := h1.to hb4
  replace h2 := h2.to hb4
  replace h2r := h2r.to hb4
  replace h3 := h3.to hb4
  replace h3r := h3r.to hb4
  replace HW := Lib.hid (hstep HW hb4)
  clear hb4
  go_wp2_with fail
  refine (square_nm b s p2 HS.out HP2.out A3 _ (by exact h3) lb.out).mono ?_
  rintro e w5 ⟨A5, rfl, h5, hb5⟩
  replace rz := rz.to hb5
  replace l0 := Nat.lt_of_lt_of_le l0 hb5.size
  replace hx := hx.to hb5
  replace hy := hy.to hb5
  replace h1 := h1.to hb5
  replace h2 := h2.to hb5
  replace h2r := h2r.to hb5
  replace h3 := h3.to hb5
  replace h3r := h3r.to hb5
  replace h4 := h4.to hb5
  replace HW := Lib.hid (hstep HW hb5)
  clear hb5
  go_upto_region 6 with fail
  obtain ⟨_, _, ⟨r0, r1, r2, r3, r4⟩, f0, f1, f2, f3, f4⟩ := rz
  by_cases hpp : (p1 && p2) = true
  · obtain ⟨rfl, rfl⟩ : p1 = true ∧ p2 = true := by simpa using hpp
    obtain rfl : bb = true := hbb.out.symm
    obtain rfl : QQ = fr (r : Int) 0 s := by rw [← hQQ.out, if_pos rfl]
    clear hpp
    go_wp2_with fail
    refine (wholeOf_pos r A4 _ (by exact h4)).mono ?_
    rintro e w6 ⟨A6, rfl, h6, hb6⟩
    replace r0 := keepc hb6 r0 l0
    replace f0 := keepf hb6 f0 l0
    replace r1 := keepc hb6 r1 l0
    replace f1 := keepf hb6 f1 l0
    replace r2 := keepc hb6 r2 l0
    replace f2 := keepf hb6 f2 l0
    replace r3 := keepc hb6 r3 l0
    replace f3 := keepf hb6 f3 l0
    replace r4 := keepc hb6 r4 l0
    replace f4 := keepf hb6 f4 l0
    replace l0 := Nat.lt_of_lt_of_le l0 hb6.size
    replace hx := hx.to hb6
    replace hy := hy.to hb6
    replace h1 := h1.to hb6
    replace h2 := h2.to hb6
    replace h2r := h2r.to hb6
    replace h3 := h3.to hb6
    replace h3r := h3r.to hb6
    replace h4 := h4.to hb6
    replace h5 := h5.to hb6
    replace HW := Lib.hid (hstep HW hb6)
    clear hb6
    go_wp2_with fail
    refine (over0_any (r : Int) s A6 A5 _ (by exact h6) (by exact h5) (Nat.le_trans lr.out (by omega)) (Nat.le_trans ls.out (by omega)) s0.out).mono ?_
    rintro e w7 ⟨Z1, Z2, Z3, rfl, hz, hb7⟩
    replace r0 := keepc hb7 r0 l0
    replace f0 := keepf hb7 f0 l0
    replace r1 := keepc hb7 r1 l0
    replace f1 := keepf hb7 f1 l0
    replace r2 := keepc hb7 r2 l0
    replace f2 := keepf hb7 f2 l0
    replace r3 := keepc hb7 r3 l0
    replace f3 := keepf hb7 f3 l0
    replace r4 := keepc hb7 r4 l0
    replace f4 := keepf hb7 f4 l0
    replace l0 := Nat.lt_of_lt_of_le l0 hb7.size
    replace hx := hx.to hb7
    replace hy := hy.to hb7
    replace h1 := h1.to hb7
    replace h2 := h2.to hb7
    replace h2r := h2r.to hb7
    replace h3 := h3.to hb7
    replace h3r := h3r.to hb7
    replace h4 := h4.to hb7
    replace h5 := h5.to hb7
    replace h6 := h6.to hb7
    replace HW := Lib.hid (hstep HW hb7)
    clear hb7
    go_wp2_with fail
    exact bodyPost_ret (v := .tuple #[.agg #[.bool (sn (na (fr (r : Int) 0 s))), .slice Z1 (ln (ab (na (fr (r : Int) 0 s)))) (ln (ab (na (fr (r : Int) 0 s)))), .bool (sn (nb (fr (r : Int) 0 s))), .slice Z2 (ln (ab (nb (fr (r : Int) 0 s)))) (ln (ab (nb (fr (r : Int) 0 s)))), .slice Z3 (ln (un (fr (r : Int) 0 s))) (ln (un (fr (r : Int) 0 s)))], .bool true]) (by simp [results, Tryz.results132, go_sem, r0, r1, r2, r3, r4, f0, f1, f2, f3, f4]) rfl (retNumB_fin HW hz (by omega) r0)
  · obtain rfl : bb = false := by rw [← hbb.out]; simpa using hpp
    obtain rfl : QQ = Cx.zero := by rw [← hQQ.out]; rfl
    have hp2 : p1 = false ∨ (p1 = true ∧ p2 = false) := by cases p1 <;> cases p2 <;> simp_all
    rcases hp2 with rfl | ⟨rfl, rfl⟩
    all_goals go_wp2_with fail
    all_goals
      refine bodyPost_ret (v := .tuple #[.agg #[.bool false, .slice none 0 0, .bool false, .slice none 0 0, .slice none 0 0], .bool false]) (by simp [results, Tryz.results132, go_sem, r0, r1, r2, r3, r4, f0, f1, f2, f3, f4]) rfl ?_
      obtain ⟨e1, e2, e3⟩ := zero_form
      have h := retNumB_fin (b := false) (q := Cx.zero) (A1 := none) (A2 := none) (A3 := none) HW ⟨by rw [e1]; exact fun e => absurd rfl e, by rw [e2]; exact fun e => absurd rfl e, by rw [e3]; exact fun e => absurd rfl e⟩ (by omega) r0
      rw [e1, e2, e3, sn_zero, show ab 0 = 0 from rfl, ln_zero] at h
      exact h

end Go.Proofs.YtgpmlhpgdalheaaGreat

namespace Go.Proofs.YtgpmlhpgdalheaaGreat
open Go.RowKit Pl
set_option linter.unusedVariables false
set_option linter.unusedSimpArgs false
namespace Pl
theorem gcd_zero_r (a : Int) (d : Nat) : Nat.gcd (Nat.gcd a.natAbs (0 : Int).natAbs) d = Nat.gcd a.natAbs d := by
  rw [show (0 : Int).natAbs = 0 from rfl, Nat.gcd_zero_right]
/-- A square of a fraction has squares above and below. -/
theorem sq_parts {a : Int} {b : Nat} {t w : Rat} (hb : 0 < b) (hg : Nat.gcd a.natAbs b = 1) (ht : (a : Rat) = t * (b : Rat)) (hw : w * w = t) : a = w.num * w.num ∧ b = w.den * w.den := by
  have r1 : Rep a 0 b ⟨t, 0⟩ := ⟨hb, by rw [gcd_zero_r]; exact hg, ht, by simp⟩
  have hd : 0 < w.den := Nat.pos_of_ne_zero w.den_nz
  have hdr := rat_ne hd
  have hwv : w * (w.den : Rat) = (w.num : Rat) := by
    have h := Rat.div_mul_cancel (a := (w.num : Rat)) hdr
    have h3 : w = (w.num : Rat) / (w.den : Rat) := by
      have := Rat.num_divInt_den w; rw [Rat.divInt_eq_div, Rat.intCast_natCast] at this; exact this.symm
    rw [← h3] at h; exact h
  have r2 : Rep (w.num * w.num) 0 (w.den * w.den) ⟨t, 0⟩ := by
    refine ⟨Nat.mul_pos hd hd, ?_, ?_, by simp⟩
    · rw [gcd_zero_r, Int.natAbs_mul]
      have h := w.reduced
      have h1 : Nat.Coprime (w.num.natAbs * w.num.natAbs) w.den := Nat.Coprime.mul_left h h
      exact Nat.Coprime.mul_right h1 h1
    · rw [Rat.intCast_mul, Rat.natCast_mul, ← hwv, ← hw]; grind
  obtain ⟨h1, _, h3⟩ := r1.uniq r2
  exact ⟨h1, h3⟩
theorem isq_of {n k : Nat} (h : k * k = n) : isq n = true := by
  unfold isq; rw [rt_sq h]; exact decide_eq_true h
theorem isq_eq {n : Nat} (h : isq n = true) : rt n * rt n = n := of_decide_eq_true h
/-- What is asked of the root of the fraction t. -/
def IsR (t : Rat) (b : Bool) (q : Cx) : Prop := (b = true ∧ ∃ w : Rat, 0 ≤ w ∧ w * w = t ∧ q = ⟨w, 0⟩) ∨ (b = false ∧ ∀ w : Rat, w * w ≠ t)
theorem nat_le_rat (n : Nat) : (0 : Rat) ≤ (n : Rat) := by exact_mod_cast Nat.zero_le n
theorem rat_root (n : Nat) {d : Nat} (hd : d ≠ 0) : IsR ((n : Rat) / (d : Rat)) (ratB n d) (ratQ n d) ∧ (ratB n d = false → ratQ n d = Cx.zero) := by
  have hg : 0 < Nat.gcd n d := Nat.gcd_pos_of_pos_right _ (by omega)
  obtain ⟨g, hgg⟩ : ∃ g, g = Nat.gcd n d := ⟨_, rfl⟩
  obtain ⟨a, ha⟩ : ∃ a, a = n / g := ⟨_, rfl⟩
  obtain ⟨b, hb⟩ : ∃ b, b = d / g := ⟨_, rfl⟩
  have e1 : n = a * g := by rw [ha, hgg]; exact (Nat.div_mul_cancel (Nat.gcd_dvd_left n d)).symm
  have e2 : d = b * g := by rw [hb, hgg]; exact (Nat.div_mul_cancel (Nat.gcd_dvd_right n d)).symm
  have hb0 : b ≠ 0 := fun e => by rw [e, Nat.zero_mul] at e2; exact hd e2
  have hco : Nat.gcd a b = 1 := by rw [ha, hb, hgg, Nat.gcd_div (Nat.gcd_dvd_left n d) (Nat.gcd_dvd_right n d)]; exact Nat.div_self hg
  have ht : (n : Rat) / (d : Rat) = (a : Rat) / (b : Rat) := by
    rw [e1, e2, Rat.natCast_mul, Rat.natCast_mul]
    have q1 := rat_ne (Nat.pos_of_ne_zero hb0)
    have q2 := rat_ne (show 0 < g by omega)
    rw [Rat.div_def, Rat.div_def, Rat.inv_mul_rev]
    grind
  have hB : ratB n d = (isq a && isq b) := by unfold ratB; rw [← hgg, ← ha, ← hb]
  have hQ : ratQ n d = if ratB n d = true then fr (rt a : Int) 0 (rt b) else Cx.zero := by unfold ratQ; rw [← hgg, ← ha, ← hb]
  have q1 := rat_ne (Nat.pos_of_ne_zero hb0)
  cases hc : ratB n d
  · refine ⟨.inr ⟨rfl, fun w hw => ?_⟩, fun _ => by rw [hQ, hc]; rfl⟩
    obtain ⟨s1, s2⟩ := sq_parts (a := (a : Int)) (b := b) (t := (n : Rat) / (d : Rat)) (w := w) (by omega) hco (by rw [ht, Rat.div_mul_cancel q1]; rfl) hw
    have s3 : w.num.natAbs * w.num.natAbs = a := by rw [← Int.natAbs_mul, ← s1]; rfl
    rw [hB, isq_of s3, isq_of s2.symm] at hc
    cases hc
  · refine ⟨.inl ⟨rfl, ?_⟩, fun h => by cases h⟩
    rw [hB, Bool.and_eq_true] at hc
    have h1 := isq_eq hc.1
    have h2 := isq_eq hc.2
    have h3 : rt b ≠ 0 := fun e => by rw [e] at h2; omega
    have q3 := rat_ne (Nat.pos_of_ne_zero h3)
    refine ⟨(rt a : Rat) / (rt b : Rat), ?_, ?_, ?_⟩
    · rw [Rat.div_def]; exact Rat.mul_nonneg (nat_le_rat _) (Rat.le_of_lt (Rat.inv_pos.2 (by have p : 0 < rt b := Nat.pos_of_ne_zero h3; exact_mod_cast p)))
    · rw [ht]
      have c1 : ((rt a : Nat) : Rat) * ((rt a : Nat) : Rat) = (a : Rat) := by rw [← Rat.natCast_mul, h1]
      have c2 : ((rt b : Nat) : Rat) * ((rt b : Nat) : Rat) = (b : Rat) := by rw [← Rat.natCast_mul, h2]
      rw [← c1, ← c2, Rat.div_def, Rat.div_def, Rat.inv_mul_rev]; grind
    · rw [hQ]
      have h4 : ratB n d = true := by rw [hB, hc.1, hc.2]; rfl
      rw [if_pos h4]
      unfold fr
      refine Cx.ext' rfl ?_
      show ((0 : Int) : Rat) / _ = 0
      rw [Rat.div_def]; simp
/-- What is asked of the root of a complex number. -/
def IsRt (x : Cx) (b : Bool) (q : Cx) : Prop := (b = true ∧ q.mul q = x ∧ (0 < q.re ∨ (q.re = 0 ∧ 0 ≤ q.im))) ∨ (b = false ∧ q = Cx.zero ∧ ∀ z : Cx, z.mul z ≠ x)
theorem sq_nonneg (a : Rat) : 0 ≤ a * a := by
  rcases (Rat.le_total : (0 : Rat) ≤ a ∨ a ≤ 0) with h | h
  · exact Rat.mul_nonneg h h
  · have h2 := Rat.mul_nonneg (show 0 ≤ -a by grind) (show 0 ≤ -a by grind)
    grind
theorem sq_zero {a : Rat} (h : a * a = 0) : a = 0 := by
  rcases Rat.mul_eq_zero.1 h with h | h <;> exact h
theorem sum_zero {a b : Rat} (h : a * a + b * b = 0) : a = 0 ∧ b = 0 := by
  have h1 := sq_nonneg a
  have h2 := sq_nonneg b
  exact ⟨sq_zero (by grind), sq_zero (by grind)⟩
theorem pm_root {p q : Cx} (h : p.mul p = q.mul q) : p = q ∨ p = q.neg := by
  have h1 := congrArg Cx.re h
  have h2 := congrArg Cx.im h
  simp only [Cx.mul] at h1 h2
  have e : ((p.re - q.re) * (p.re - q.re) + (p.im - q.im) * (p.im - q.im)) * ((p.re + q.re) * (p.re + q.re) + (p.im + q.im) * (p.im + q.im)) = 0 := by grind
  rcases Rat.mul_eq_zero.1 e with e | e
  · obtain ⟨a, b⟩ := sum_zero e
    exact .inl (Cx.ext' (by grind) (by grind))
  · obtain ⟨a, b⟩ := sum_zero e
    exact .inr (Cx.ext' (by simp only [Cx.neg]; grind) (by simp only [Cx.neg]; grind))
theorem IsRt.uniq {x : Cx} {b b' : Bool} {q q' : Cx} (h : IsRt x b q) (k : IsRt x b' q') : b = b' ∧ q = q' := by
  rcases h with ⟨h1, h2, h3⟩ | ⟨h1, h2, h3⟩ <;> rcases k with ⟨k1, k2, k3⟩ | ⟨k1, k2, k3⟩
  · refine ⟨by rw [h1, k1], ?_⟩
    rcases pm_root (h2.trans k2.symm) with e | e
    · exact e
    · rw [e] at h3
      simp only [Cx.neg] at h3
      rw [e]
      refine Cx.ext' ?_ ?_ <;> simp only [Cx.neg] <;> grind
  · exact absurd h2 (k3 q)
  · exact absurd k2 (h3 q')
  · exact ⟨by rw [h1, k1], by rw [h2, k2]⟩
theorem root_mul {x : Cx} {b : Bool} {q : Cx} (h : IsRt x b q) (hb : b = true) : q.mul q = x := by
  rcases h with ⟨_, h, _⟩ | ⟨h, _⟩
  · exact h
  · rw [hb] at h; cases h
/-- Every square has a root. -/
theorem root_sq {z : Cx} {b : Bool} {q : Cx} (h : IsRt (z.mul z) b q) : b = true ∧ (q = z ∨ q = z.neg) ∧ 0 ≤ q.re := by
  rcases h with ⟨h1, h2, h3⟩ | ⟨h1, h2, h3⟩
  · exact ⟨h1, pm_root h2, by grind⟩
  · exact absurd rfl (h3 z)
/-- |z|^2 of a root. -/
theorem nrm_mul {x z : Cx} (h : z.mul z = x) : (z.re * z.re + z.im * z.im) * (z.re * z.re + z.im * z.im) = x.nrm := by
  rw [← h]; simp only [Cx.mul, Cx.nrm]; grind
theorem pos_root {a b : Rat} (ha : 0 ≤ a) (hb : 0 ≤ b) (h : a * a = b * b) : a = b := by
  have e : (a - b) * (a + b) = 0 := by grind
  rcases Rat.mul_eq_zero.1 e with e | e
  · grind
  · grind
theorem half_re {x z : Cx} {r : Rat} (h : z.mul z = x) (hr : 0 ≤ r) (hn : r * r = x.nrm) : z.re * z.re = (x.re + r) / 2 ∧ z.im * z.im = (r - x.re) / 2 := by
  have h1 := nrm_mul h
  have h2 := sq_nonneg z.re
  have h3 := sq_nonneg z.im
  have e := pos_root hr (show 0 ≤ z.re * z.re + z.im * z.im by grind) (hn.trans h1.symm)
  have h4 : z.re * z.re - z.im * z.im = x.re := by rw [← h]; rfl
  constructor <;> (rw [Rat.div_def]; grind)
/-- A number whose norm has no root has none. -/
theorem no_norm {x : Cx} (h : ∀ w : Rat, w * w ≠ x.nrm) : ∀ z : Cx, z.mul z ≠ x := fun z e => h _ (nrm_mul e)
theorem no_half {x : Cx} {r : Rat} (hr : 0 ≤ r) (hn : r * r = x.nrm) (h : ∀ w : Rat, w * w ≠ (x.re + r) / 2) : ∀ z : Cx, z.mul z ≠ x := fun z e => h _ (half_re e hr hn).1
theorem no_other {x : Cx} {r : Rat} (hr : 0 ≤ r) (hn : r * r = x.nrm) (h : ∀ w : Rat, w * w ≠ (r - x.re) / 2) : ∀ z : Cx, z.mul z ≠ x := fun z e => h _ (half_re e hr hn).2
theorem r_above {x : Cx} {r : Rat} (hr : 0 ≤ r) (hn : r * r = x.nrm) : 0 ≤ x.re + r ∧ 0 ≤ r - x.re := by
  have h2 := sq_nonneg x.im
  have h3 : x.re * x.re ≤ r * r := by rw [hn]; unfold Cx.nrm; grind
  constructor
  · refine Decidable.byContradiction fun h => ?_
    have h4 : r < -x.re := by grind
    have h5 := Rat.mul_nonneg (show 0 ≤ -x.re - r by grind) (show 0 ≤ -x.re + r by grind)
    have h6 : (-x.re - r) * (-x.re + r) = x.re * x.re - r * r := by grind
    have h7 : (-x.re - r) * (-x.re + r) = 0 := by grind
    rcases Rat.mul_eq_zero.1 h7 with e | e <;> grind
  · refine Decidable.byContradiction fun h => ?_
    have h4 : r < x.re := by grind
    have h5 := Rat.mul_nonneg (show 0 ≤ x.re - r by grind) (show 0 ≤ x.re + r by grind)
    have h6 : (x.re - r) * (x.re + r) = x.re * x.re - r * r := by grind
    have h7 : (x.re - r) * (x.re + r) = 0 := by grind
    rcases Rat.mul_eq_zero.1 h7 with e | e <;> grind
/-- The program's root of a number that is not real. -/
theorem prog_root {x : Cx} {r u : Rat} (hi : x.im ≠ 0) (hr : 0 ≤ r) (hn : r * r = x.nrm) (hu : 0 ≤ u) (h2 : u * u = (x.re + r) / 2) : (⟨u, 0⟩ : Cx).add ⟨u, 0⟩ ≠ Cx.zero ∧ IsRt x true ((⟨u, 0⟩ : Cx).add ((x.imOf.div ((⟨u, 0⟩ : Cx).add ⟨u, 0⟩)).mul ⟨0, 1⟩)) := by
  have hu0 : u ≠ 0 := by
    intro e
    have h3 : x.re + r = 0 := by rw [e, Rat.div_def] at h2; grind
    have h4 : x.im * x.im = 0 := by unfold Cx.nrm at hn; grind
    exact hi (sq_zero h4)
  have hup : 0 < u := by grind
  have h2' : 2 * (u * u) = x.re + r := by rw [h2, Rat.div_def]; grind
  refine ⟨fun e => ?_, .inl ⟨rfl, ?_, .inl ?_⟩⟩
  · have := congrArg Cx.re e; simp only [Cx.add, Cx.zero] at this; grind
  · have hd : (x.imOf.div ((⟨u, 0⟩ : Cx).add ⟨u, 0⟩)) = ⟨x.im / (2 * u), 0⟩ := by
      refine Cx.ext' ?_ ?_
      · simp only [Cx.div, Cx.imOf, Cx.add, Cx.nrm, Rat.div_def]; grind
      · simp only [Cx.div, Cx.imOf, Cx.add, Cx.nrm, Rat.div_def]; grind
    rw [hd]
    obtain ⟨v, hv⟩ : ∃ v, v = x.im / (2 * u) := ⟨_, rfl⟩
    rw [← hv]
    have hv2 : 2 * u * v = x.im := by rw [hv, Rat.div_def]; grind
    have hn2 : r * r = x.re * x.re + x.im * x.im := hn
    have e4 : 4 * (u * u) * (v * v) = x.im * x.im := by rw [← hv2]; grind
    have e5 : (r + x.re) * (r - x.re) = x.im * x.im := by grind
    have e6 : (2 * (u * u)) * (2 * (v * v) - (r - x.re)) = 0 := by grind
    have e7 : 2 * (v * v) = r - x.re := by
      rcases Rat.mul_eq_zero.1 e6 with e | e
      · exfalso; have := sq_zero (a := u) (by grind); exact hu0 this
      · grind
    refine Cx.ext' ?_ ?_ <;> simp only [Cx.mul, Cx.add] <;> grind
  · simp only [Cx.mul, Cx.add, Cx.div, Cx.imOf, Cx.nrm]
    have hz : ((0 : Rat) * (u + u) - x.im * (0 + 0)) / ((u + u) * (u + u) + (0 + 0) * (0 + 0)) = 0 := by rw [Rat.div_def]; grind
    grind
/-- The reference's root. -/
theorem ref_root {x : Cx} {r u v : Rat} (hr : 0 ≤ r) (hn : r * r = x.nrm) (hu : 0 ≤ u) (h2 : u * u = (x.re + r) / 2) (hv : 0 ≤ v) (h3 : v * v = (r - x.re) / 2) : IsRt x true ((⟨u, 0⟩ : Cx).add ((if x.im < 0 then (⟨v, 0⟩ : Cx).neg else ⟨v, 0⟩).mul ⟨0, 1⟩)) := by
  have h2' : 2 * (u * u) = x.re + r := by rw [h2, Rat.div_def]; grind
  have h3' : 2 * (v * v) = r - x.re := by rw [h3, Rat.div_def]; grind
  have hn2 : r * r = x.re * x.re + x.im * x.im := hn
  have huv := Rat.mul_nonneg hu hv
  have e1 : (2 * (u * v)) * (2 * (u * v)) = x.im * x.im := by grind
  by_cases hi : x.im < 0
  · rw [if_pos hi]
    have e2 := pos_root (a := 2 * (u * v)) (b := -x.im) (by grind) (by grind) (by grind)
    have hu0 : u ≠ 0 := by intro e; rw [e] at e2; grind
    refine .inl ⟨rfl, ?_, .inl ?_⟩
    · refine Cx.ext' ?_ ?_ <;> simp only [Cx.mul, Cx.add, Cx.neg] <;> grind
    · simp only [Cx.mul, Cx.add, Cx.neg]; grind
  · rw [if_neg hi]
    have e2 := pos_root (a := 2 * (u * v)) (b := x.im) (by grind) (by grind) e1
    refine .inl ⟨rfl, ?_, ?_⟩
    · refine Cx.ext' ?_ ?_ <;> simp only [Cx.mul, Cx.add] <;> grind
    · simp only [Cx.mul, Cx.add]; grind
/-- Real numbers. -/
theorem real_pos {x : Cx} {b : Bool} {q : Cx} (hi : x.im = 0) (hx : 0 ≤ x.re) (h : IsR x.re b q) (hz : b = false → q = Cx.zero) : IsRt x b q := by
  rcases h with ⟨h1, w, h2, h3, h4⟩ | ⟨h1, h2⟩
  · refine .inl ⟨h1, ?_, ?_⟩
    · rw [h4]; refine Cx.ext' ?_ ?_ <;> simp only [Cx.mul] <;> grind
    · rw [h4]
      rcases Decidable.em (0 < w) with h | h
      · exact .inl h
      · exact .inr ⟨by show w = 0; grind, by show (0 : Rat) ≤ 0; grind⟩
  · refine .inr ⟨h1, hz h1, fun z e => ?_⟩
    have e1 : z.re * z.re - z.im * z.im = x.re := by rw [← e]; rfl
    have e2 : z.re * z.im + z.im * z.re = x.im := by rw [← e]; rfl
    have e3 : z.re * z.im = 0 := by grind
    rcases Rat.mul_eq_zero.1 e3 with e4 | e4
    · have h5 := sq_nonneg z.im
      exact h2 z.re (by rw [e4] at e1 ⊢; grind)
    · exact h2 z.re (by rw [e4] at e1; grind)
theorem real_neg {x : Cx} {b : Bool} {q : Cx} (hi : x.im = 0) (hx : x.re < 0) (h : IsR (-x.re) b q) (hz : b = false → q = Cx.zero) : IsRt x b ⟨0, q.re⟩ := by
  rcases h with ⟨h1, w, h2, h3, h4⟩ | ⟨h1, h2⟩
  · refine .inl ⟨h1, ?_, .inr ⟨rfl, ?_⟩⟩
    · rw [h4]; refine Cx.ext' ?_ ?_ <;> simp only [Cx.mul] <;> grind
    · rw [h4]; exact h2
  · refine .inr ⟨h1, by rw [hz h1]; rfl, fun z e => ?_⟩
    have e1 : z.re * z.re - z.im * z.im = x.re := by rw [← e]; rfl
    have e2 : z.re * z.im + z.im * z.re = x.im := by rw [← e]; rfl
    have e3 : z.re * z.im = 0 := by grind
    rcases Rat.mul_eq_zero.1 e3 with e4 | e4
    · exact h2 z.im (by rw [e4] at e1; grind)
    · have h5 := sq_nonneg z.re
      rw [e4] at e1
      grind
end Pl
end Go.Proofs.YtgpmlhpgdalheaaGreat

namespace Go.Proofs.YtgpmlhpgdalheaaGreat
open Go.RowKit Pl
set_option linter.unusedVariables false
set_option linter.unusedSimpArgs false

/-- A call hands back a root. -/
def RetRoot (w : World) (x : Cx) (e : Ending) (w' : World) : Prop := ∃ b q, IsRt x b q ∧ sz 300000000 q ∧ RetNumB w b q e w'
/-- Five cells of a block are stored into. -/
structure Sets (w X : World) (g : Nat) (v0 v1 v2 v3 v4 : Value) : Prop where
  size : X.heap.size = w.heap.size
  c0 : X.cell? ⟨g, 0, none⟩ = some v0
  c1 : X.cell? ⟨g, 1, none⟩ = some v1
  c2 : X.cell? ⟨g, 2, none⟩ = some v2
  c3 : X.cell? ⟨g, 3, none⟩ = some v3
  c4 : X.cell? ⟨g, 4, none⟩ = some v4
  oth : ∀ (b i : Nat) (v : Value), b ≠ g → w.cell? ⟨b, i, none⟩ = some v → X.cell? ⟨b, i, none⟩ = some v
  fro : ∀ (b i : Nat) (v : Bool), w.frozen? ⟨b, i, none⟩ = v → X.frozen? ⟨b, i, none⟩ = v
  nat : ∀ (A : Option Addr) (n : Nat), Nat32 w A n → Nat32 X A n
  bel : ∀ (u : World), Below u.heap.size u w → u.heap.size ≤ g → Below u.heap.size u X
theorem sets_mk {w X : World} {g : Nat} {b0 c : Bool} {v1 v2 v3 v4 t1 t2 t3 t4 : Value} (h0 : w.cell? ⟨g, 0, none⟩ = some (.bool c)) (h1 : w.cell? ⟨g, 1, none⟩ = some t1) (h2 : w.cell? ⟨g, 2, none⟩ = some t2) (h3 : w.cell? ⟨g, 3, none⟩ = some t3) (h4 : w.cell? ⟨g, 4, none⟩ = some t4)
    (hX : X = ((((w.setCell ⟨g, 0, none⟩ (.bool b0)).setCell ⟨g, 1, none⟩ v1).setCell ⟨g, 2, none⟩ v2).setCell ⟨g, 3, none⟩ v3).setCell ⟨g, 4, none⟩ v4) : Sets w X g (.bool b0) v1 v2 v3 v4 := by
  have nb : ∀ (b : Bool) k m, Value.bool b ≠ .int k m := by intro b k m e; cases e
  have a0 := cell_self (u := .bool b0) h0
  have b1 := cell_self (u := v1) (keepo (R := g) (j := 0) (u := .bool b0) h1 (by simp))
  have b2 := cell_self (u := v2) (keepo (R := g) (j := 1) (u := v1) (keepo (R := g) (j := 0) (u := .bool b0) h2 (by simp)) (by simp))
  have b3 := cell_self (u := v3) (keepo (R := g) (j := 2) (u := v2) (keepo (R := g) (j := 1) (u := v1) (keepo (R := g) (j := 0) (u := .bool b0) h3 (by simp)) (by simp)) (by simp))
  have b4 := cell_self (u := v4) (keepo (R := g) (j := 3) (u := v3) (keepo (R := g) (j := 2) (u := v2) (keepo (R := g) (j := 1) (u := v1) (keepo (R := g) (j := 0) (u := .bool b0) h4 (by simp)) (by simp)) (by simp)) (by simp))
  have e1 := keepo (R := g) (j := 1) (u := v1) a0 (by simp)
  have e2 := keepo (R := g) (j := 2) (u := v2) e1 (by simp)
  have e3 := keepo (R := g) (j := 3) (u := v3) e2 (by simp)
  subst hX
  refine ⟨by simp [World.setCell], keepo (j := 4) e3 (by simp), keepo (j := 4) (keepo (j := 3) (keepo (j := 2) b1 (by simp)) (by simp)) (by simp), keepo (j := 4) (keepo (j := 3) b2 (by simp)) (by simp), keepo (j := 4) b3 (by simp), b4,
    fun b i v hne h => keepo (keepo (keepo (keepo (keepo h (.inl hne)) (.inl hne)) (.inl hne)) (.inl hne)) (.inl hne),
    fun b i v h => keepof (keepof (keepof (keepof (keepof h)))),
    fun A n h => ((((h.setBox h0 (nb _)).setBox a0 (nb _)).setBox e1 (nb _)).setBox e2 (nb _)).setBox e3 (nb _),
    fun u h hg => ((((h.setCell (by exact hg) _).setCell (by exact hg) _).setCell (by exact hg) _).setCell (by exact hg) _).setCell (by exact hg) _⟩
/-- The cells of a variable may be written. -/
def FrozN (wx : World) (p : Value) : Prop := ∀ g : Nat, p = .pointer (some ⟨g, 0, none⟩) → ∀ i : Nat, i < 5 → wx.frozen? ⟨g, i, none⟩ = false
theorem frozN_set {wn : World} {g B : Nat} {v0 v1 v2 v3 v4 : Value} (n : NewVarN B g wn) : FrozN (((((wn.setCell ⟨g, 0, none⟩ v0).setCell ⟨g, 1, none⟩ v1).setCell ⟨g, 2, none⟩ v2).setCell ⟨g, 3, none⟩ v3).setCell ⟨g, 4, none⟩ v4) (.pointer (some ⟨g, 0, none⟩)) := by
  obtain ⟨_, _, _, f0, f1, f2, f3, f4⟩ := n
  intro g' e i hi
  have e2 : g = g' := by injection e with e; injection e with e; injection e with e
  subst e2
  clear e
  have key : wn.frozen? ⟨g, i, none⟩ = false := by
    have h : i = 0 ∨ i = 1 ∨ i = 2 ∨ i = 3 ∨ i = 4 := by omega
    rcases h with h | h | h | h | h
    · rw [h]; exact f0
    · rw [h]; exact f1
    · rw [h]; exact f2
    · rw [h]; exact f3
    · rw [h]; exact f4
  have a := keepof (R := g) (j := 0) (u := v0) key
  have b := keepof (R := g) (j := 1) (u := v1) a
  have c := keepof (R := g) (j := 2) (u := v2) b
  have d := keepof (R := g) (j := 3) (u := v3) c
  exact keepof (R := g) (j := 4) (u := v4) d
theorem frozN_new (wn : World) (c : Array Value) (T : TypeId) : FrozN (wn.alloc (.cells c T)) (.pointer (some ⟨wn.heap.size, 0, none⟩)) := by
  intro g' e i hi
  injection e with e; injection e with e; injection e with e
  subst e
  go_simp
theorem times_e (z a b : Int) (h : a * b = z) (A B : Option Addr) (w : World) (hx : Nat32 w A (ab a)) (hy : Nat32 w B (ab b)) (hbx : ln (ab a) ≤ 1099511627776) (hby : ln (ab b) ≤ 1099511627776) :
    Calls Tryz.prog 104 #[.agg #[.bool (sn (a)), .slice A (ln (ab (a))) (ln (ab (a)))], .agg #[.bool (sn (b)), .slice B (ln (ab (b))) (ln (ab (b)))]] w (RetWhole w z) := by
  subst h; exact times_any a b A B w hx hy hbx hby
theorem plus_e (z a b : Int) (h : a + b = z) (A B : Option Addr) (w : World) (hx : Nat32 w A (ab a)) (hy : Nat32 w B (ab b)) (hbx : ln (ab a) ≤ 1099511627776) (hby : ln (ab b) ≤ 1099511627776) :
    Calls Tryz.prog 98 #[.agg #[.bool (sn (a)), .slice A (ln (ab (a))) (ln (ab (a)))], .agg #[.bool (sn (b)), .slice B (ln (ab (b))) (ln (ab (b)))]] w (RetWhole w z) := by
  subst h; exact plus_any a b A B w hx hy hbx hby
theorem shl_two (x L : Nat) (hL : L = x * 2) (A : Option Addr) (w : World) (hx : Nat32 w A x) (hb : ln x ≤ 35184372088832) :
    Calls Tryz.prog 114 #[.slice A (ln x) (ln x), .int .i64 1] w (RetNat w L) := by
  have h := shl_any x 1 A w hx hb (by omega)
  rw [Nat.pow_one, ← hL] at h
  exact h
theorem rational_e (n d : Nat) (b : Bool) (q : Cx) (hb : ratB n d = b) (hq : ratQ n d = q) (A D : Option Addr) (w : World) (hx : Nat32 w A n) (hy : Nat32 w D d) (hbx : ln n ≤ 17179869184) (hby : ln d ≤ 17179869184) (hd : d ≠ 0) : Calls Tryz.prog 132 #[.slice A (ln n) (ln n), .slice D (ln d) (ln d)] w (RetNumB w b q) := by
  subst hb hq; exact rational_any n d A D w hx hy hbx hby hd
theorem sz_ratQ {n d K : Nat} (h1 : 1 ≤ K) (hn : ln n ≤ K) (hd : ln d ≤ K) (hd0 : d ≠ 0) : sz K (ratQ n d) := by
  unfold ratQ
  split
  · have h3 : d / Nat.gcd n d ≠ 0 := by
      have h1 := Nat.gcd_dvd_right n d
      have h2 := Nat.le_of_dvd (by omega) h1
      have h3 : 0 < Nat.gcd n d := Nat.gcd_pos_of_pos_right _ (by omega)
      exact Nat.ne_of_gt (Nat.div_pos h2 h3)
    refine fr_sz (fun e => ?_) ?_ ?_ ?_
    · have := (rt_spec (d / Nat.gcd n d)).2; rw [e] at this; exact h3 (Nat.lt_one_iff.1 this)
    · exact Nat.le_trans (ln_mono (Nat.le_trans (rt_self _) (Nat.div_le_self _ _))) hn
    · show ln 0 ≤ K; rw [ln_zero]; omega
    · exact Nat.le_trans (ln_mono (Nat.le_trans (rt_self _) (Nat.div_le_self _ _))) hd
  · exact sz.mono sz_int0 h1
theorem rot_form {q : Cx} (h : nb q = 0) : na ⟨0, q.re⟩ = 0 ∧ nb ⟨0, q.re⟩ = na q ∧ nd ⟨0, q.re⟩ = nd q := by
  obtain ⟨h1, h2, h3, h4⟩ := rep q
  rw [h] at h2
  refine of_rep ⟨h1, ?_, by simp, h3⟩
  rw [show (0 : Int).natAbs = 0 from rfl] at *
  rw [Nat.gcd_zero_left]; rw [Nat.gcd_zero_right] at h2; exact h2
theorem nb_of {q : Cx} (h : q.im = 0) : nb q = 0 := by
  have e := nb_eq q
  rw [h, Rat.zero_mul] at e
  exact_mod_cast e
theorem iu_form : na ⟨0, 1⟩ = 0 ∧ nb ⟨0, 1⟩ = 1 ∧ nd ⟨0, 1⟩ = 1 := of_rep ⟨by decide, by decide, by simp, by simp⟩
theorem iu_sz : sz 1 ⟨0, 1⟩ := by
  obtain ⟨e1, e2, e3⟩ := iu_form
  unfold sz; rw [e1, e2, e3]
  refine ⟨by show ln 0 ≤ 1; rw [ln_zero]; omega, by show ln 1 ≤ 1; rw [ln_one]; omega, by rw [ln_one]; omega⟩
theorem mul_iu (r i : Cx) (z : Int) (hz : z = 1) (hi : i = ⟨0, 1⟩) (B1 B2 B3 T : Option Addr) (w : World) (hx : Num3 w B1 B2 B3 r) (hT : Nat32 w T (ab z)) (hs : sz 100000000 r) :
    Calls Tryz.prog 30 #[.agg #[.bool (sn (na r)), .slice B1 (ln (ab (na r))) (ln (ab (na r))), .bool (sn (nb r)), .slice B2 (ln (ab (nb r))) (ln (ab (nb r))), .slice B3 (ln (un r)) (ln (un r))], .agg #[.bool false, .slice none 0 0, .bool (sn z), .slice T (ln (ab z)) (ln (ab z)), .slice none 0 0]] w (RetNum w (r.mul i)) := by
  subst hz hi
  obtain ⟨e1, e2, e3⟩ := iu_form
  have e4 : un ⟨0, 1⟩ = 0 := un_one e3
  have h := mul_num r ⟨0, 1⟩ B1 B2 B3 none T none w hx ⟨by rw [e1]; exact Nat32.zero _ _, by rw [e2]; exact hT, by rw [e4]; exact Nat32.zero _ _⟩ (sz.mono hs (by omega)) (sz.mono iu_sz (by omega))
  rw [e1, e2, e4, show ab 0 = 0 from rfl, ln_zero, show sn 0 = false from rfl] at h
  exact h
theorem field_mag (a : Bool) (v : Value) (w : World) : (Instr.field 28 (.agg #[.bool a, v]) 1).run Tryz.prog w = .ok v w := by
  simp [Instr.field, run_underlying Tryz.underlying28, asAgg, Go.part, isAgg, run_underlying Tryz.underlying26]
theorem of64_one (z : Int) (hz : z = 1) (w : World) : Calls Tryz.prog 120 #[.int .i64 1] w (RetWhole w z) := by
  subst hz; exact of64_any 1 w (by omega) (by omega)
set_option maxHeartbeats 4000000 in
theorem sqrt_re (x : Cx) (A1 A2 A3 : Option Addr) (w : World) (hx : Num3 w A1 A2 A3 x) (hsx : sz 1000000 x) (h : nb x = 0) (sg b : Bool) (Q : Cx) (hs : sn (na x) = sg) (hb : ratB (ab (na x)) (nd x) = b) (hQ : ratQ (ab (na x)) (nd x) = Q) (hi : Q.im = 0) (zQ : sz 1000000 Q) (F1 : sg = false → IsRt x b Q) (F2 : sg = true → IsRt x b ⟨0, Q.re⟩) :
    Calls Tryz.prog 71 #[.agg #[.bool (sn (na x)), .slice A1 (ln (ab (na x))) (ln (ab (na x))), .bool (sn (nb x)), .slice A2 (ln (ab (nb x))) (ln (ab (nb x))), .slice A3 (ln (un x)) (ln (un x))]] w (RetRoot w x) := by
  obtain ⟨hx1, hx2, hx3⟩ := hx
  have HSX := Lib.hid hsx
  have t : decide (nb x = 0) = true := decide_eq_true h
  have HS := Lib.hid hs
  obtain ⟨q1, q2, q3⟩ := rot_form (nb_of hi)
  have q4 : un ⟨0, Q.re⟩ = un Q := by unfold un; rw [q3]
  have HF := Lib.hid (And.intro q1 (And.intro q2 q4))
  have ZR : Hid (sz 300000000 ⟨0, Q.re⟩) := Lib.hid (by unfold sz; rw [q1, q2, q3]; exact ⟨by show ln 0 ≤ _; rw [ln_zero]; omega, Nat.le_trans zQ.1 (by omega), Nat.le_trans zQ.2.2 (by omega)⟩)
  have ZQ := Lib.hid zQ
  replace F1 := Lib.hid F1
  replace F2 := Lib.hid F2
  clear q1 q2 q3 q4 hi zQ
  have HB := Lib.hid hb
  have HQ := Lib.hid hQ
  clear hsx h hs hb hQ
  go_enter Tryz.func71, Tryz.ntmps71
  go_wp2_with fail
  obtain ⟨W, hW⟩ : ∃ W : World, W = ((w.alloc (.cells #[.bool (sn (na x)), .slice A1 (ln (ab (na x))) (ln (ab (na x))), .bool (sn (nb x)), .slice A2 (ln (ab (nb x))) (ln (ab (nb x))), .slice A3 (ln (un x)) (ln (un x))] 30)).alloc (.cells #[.bool false, .slice none 0 0, .bool false, .slice none 0 0, .slice none 0 0] 30)) := ⟨_, rfl⟩
  have s0_0 : W.cell? ⟨w.heap.size, 0, none⟩ = some (.bool (sn (na x))) := by subst hW; go_simp
  have s0_1 : W.cell? ⟨w.heap.size, 1, none⟩ = some (.slice A1 (ln (ab (na x))) (ln (ab (na x)))) := by subst hW; go_simp
  have s0_2 : W.cell? ⟨w.heap.size, 2, none⟩ = some (.bool (sn (nb x))) := by subst hW; go_simp
  have s0_3 : W.cell? ⟨w.heap.size, 3, none⟩ = some (.slice A2 (ln (ab (nb x))) (ln (ab (nb x)))) := by subst hW; go_simp
  have s0_4 : W.cell? ⟨w.heap.size, 4, none⟩ = some (.slice A3 (ln (un x)) (ln (un x))) := by subst hW; go_simp
  have r0 : W.cell? ⟨w.heap.size + 1, 0, none⟩ = some (.bool false) := by subst hW; go_simp
  have f0 : W.frozen? ⟨w.heap.size + 1, 0, none⟩ = false := by subst hW; go_simp
  have r1 : W.cell? ⟨w.heap.size + 1, 1, none⟩ = some (.slice none 0 0) := by subst hW; go_simp
  have f1 : W.frozen? ⟨w.heap.size + 1, 1, none⟩ = false := by subst hW; go_simp
  have r2 : W.cell? ⟨w.heap.size + 1, 2, none⟩ = some (.bool false) := by subst hW; go_simp
  have f2 : W.frozen? ⟨w.heap.size + 1, 2, none⟩ = false := by subst hW; go_simp
  have r3 : W.cell? ⟨w.heap.size + 1, 3, none⟩ = some (.slice none 0 0) := by subst hW; go_simp
  have f3 : W.frozen? ⟨w.heap.size + 1, 3, none⟩ = false := by subst hW; go_simp
  have r4 : W.cell? ⟨w.heap.size + 1, 4, none⟩ = some (.slice none 0 0) := by subst hW; go_simp
  have f4 : W.frozen? ⟨w.heap.size + 1, 4, none⟩ = false := by subst hW; go_simp
  have HW : Below w.heap.size w W := by subst hW; exact (((Below.refl w.heap.size w).alloc (Nat.le_refl _) _).alloc (by simp) _)
  have l0 : w.heap.size < W.heap.size := by subst hW; simp <;> omega
  have l1 : w.heap.size + 1 < W.heap.size := by subst hW; simp
  have n0 : w.heap.size ≠ w.heap.size + 1 := by omega
  replace hx1 := hx1.to HW
  replace hx2 := hx2.to HW
  replace hx3 := hx3.to HW
  have rz : NewVarN 0 (w.heap.size + 1) W := ⟨Nat.zero_le _, l1, ⟨r0, r1, r2, r3, r4⟩, f0, f1, f2, f3, f4⟩
  clear r0 r1 r2 r3 r4 f0 f1 f2 f3 f4
  rw [← hW]
  clear hW
  replace HW := Lib.hid HW
  refine (real_any x A1 A2 A3 _ (by exact num3_mk hx1 hx2 hx3)).mono ?_
  rintro e w1 ⟨rfl, hb1⟩
  replace s0_0 := keepc hb1 s0_0 l0
  replace s0_1 := keepc hb1 s0_1 l0
  replace s0_2 := keepc hb1 s0_2 l0
  replace s0_3 := keepc hb1 s0_3 l0
  replace s0_4 := keepc hb1 s0_4 l0
  replace rz := rz.to hb1
  replace l0 := Nat.lt_of_lt_of_le l0 hb1.size
  replace l1 := Nat.lt_of_lt_of_le l1 hb1.size
  replace hx1 := hx1.to hb1
  replace hx2 := hx2.to hb1
  replace hx3 := hx3.to hb1
  replace HW := Lib.hid (hstep HW hb1)
  clear hb1
  rw [t]
  go_upto_region 2 with fail
  go_cut [4, 5] (fun p ev wx => VarNum w1 (Q) p wx ∧ ev = .bool b ∧ FrozN wx p)
  case first =>
    have gB : Hid (Below w1.heap.size w1 w1) := Lib.hid (Below.refl _ _)
    go_region_held3 (fun w' => w'.cell? ⟨w.heap.size, 0, none⟩ = some (.bool (sn (na x))) ∧ w'.cell? ⟨w.heap.size, 1, none⟩ = some (.slice A1 (ln (ab (na x))) (ln (ab (na x)))) ∧ w'.cell? ⟨w.heap.size, 2, none⟩ = some (.bool (sn (nb x))) ∧ w'.cell? ⟨w.heap.size, 3, none⟩ = some (.slice A2 (ln (ab (nb x))) (ln (ab (nb x)))) ∧ w'.cell? ⟨w.heap.size, 4, none⟩ = some (.slice A3 (ln (un x)) (ln (un x)))) (first | with_reducible exact ⟨s0_0, s0_1, s0_2, s0_3, s0_4⟩ | with_reducible exact ⟨(keepa s0_0 l0), (keepa s0_1 l0), (keepa s0_2 l0), (keepa s0_3 l0), (keepa s0_4 l0)⟩ | with_reducible exact ⟨(keepa (keepa s0_0 l0) (lta l0)), (keepa (keepa s0_1 l0) (lta l0)), (keepa (keepa s0_2 l0) (lta l0)), (keepa (keepa s0_3 l0) (lta l0)), (keepa (keepa s0_4 l0) (lta l0))⟩ | with_reducible exact ⟨(keepd s0_0), (keepd s0_1), (keepd s0_2), (keepd s0_3), (keepd s0_4)⟩ | with_reducible exact ⟨(keepd (keepa s0_0 l0)), (keepd (keepa s0_1 l0)), (keepd (keepa s0_2 l0)), (keepd (keepa s0_3 l0)), (keepd (keepa s0_4 l0))⟩ | with_reducible exact ⟨(keepd (keepa (keepa s0_0 l0) (lta l0))), (keepd (keepa (keepa s0_1 l0) (lta l0))), (keepd (keepa (keepa s0_2 l0) (lta l0))), (keepd (keepa (keepa s0_3 l0) (lta l0))), (keepd (keepa (keepa s0_4 l0) (lta l0)))⟩ | (have _ := gx; with_reducible exact ⟨(keeps (keeps (keeps (keeps (keeps s0_0 gn0) gn0) gn0) gn0) gn0), (keeps (keeps (keeps (keeps (keeps s0_1 gn0) gn0) gn0) gn0) gn0), (keeps (keeps (keeps (keeps (keeps s0_2 gn0) gn0) gn0) gn0) gn0), (keeps (keeps (keeps (keeps (keeps s0_3 gn0) gn0) gn0) gn0) gn0), (keeps (keeps (keeps (keeps (keeps s0_4 gn0) gn0) gn0) gn0) gn0)⟩)) (first
      | (go_at_call 89; refine (den_any x A1 A2 A3 _ (by first | with_reducible exact num3_mk hx1 hx2 hx3 | with_reducible exact num3_alloc (num3_mk hx1 hx2 hx3) | exact num3_mk hx1 hx2 hx3 | exact num3_alloc (num3_mk hx1 hx2 hx3))).mono ?_; rintro e w2 ⟨D2, rfl, h2, ha⟩; have hb2 : Below w1.heap.size w1 w2 := (by first | with_reducible exact ha | with_reducible exact undrew ha | with_reducible exact unalloc ha | with_reducible exact undrewalloc ha | with_reducible exact undrew (unalloc ha)); (try replace gx := gx.to hb2); (try ((first | (with_reducible have gx := newvarN ha) | (with_reducible have gx := newvarN (undrew ha)) | (with_reducible have gx := newvarN (unalloc ha)) | (with_reducible have gx := newvarN (undrewalloc ha))); have gn0 := Nat.ne_of_lt (Nat.lt_of_lt_of_le l0 gx.1); have gn1 := Nat.ne_of_lt (Nat.lt_of_lt_of_le l1 gx.1); have gge := Nat.le_trans gB.out.size gx.1)); replace gB := Lib.hid (onto gB.out hb2); replace s0_0 := keepc hb2 s0_0 l0; replace s0_1 := keepc hb2 s0_1 l0; replace s0_2 := keepc hb2 s0_2 l0; replace s0_3 := keepc hb2 s0_3 l0; replace s0_4 := keepc hb2 s0_4 l0; replace rz := rz.to hb2; replace l0 := Nat.lt_of_lt_of_le l0 hb2.size; replace l1 := Nat.lt_of_lt_of_le l1 hb2.size; replace hx1 := hx1.to hb2; replace hx2 := hx2.to hb2; replace hx3 := hx3.to hb2; replace HW := Lib.hid (hstep HW hb2); clear hb2; clear ha)
      | (go_at_call 132; refine (rational_e (ab (na x)) (nd x) b Q HB.out HQ.out A1 D2 _ (by first | with_reducible exact hx1 | with_reducible exact hx1.alloc _ | exact hx1 | exact hx1.alloc _) (by first | with_reducible exact h2 | with_reducible exact h2.alloc _ | exact h2 | exact h2.alloc _) (by have := HSX.out; unfold sz at this; omega) (by have := HSX.out; unfold sz at this; omega) (nd_ne0 x)).mono ?_; rintro e w3 ⟨Z1, Z2, Z3, rfl, z3, ha⟩; have hb3 : Below w2.heap.size w2 w3 := (by first | with_reducible exact ha | with_reducible exact undrew ha | with_reducible exact unalloc ha | with_reducible exact undrewalloc ha | with_reducible exact undrew (unalloc ha)); (try replace gx := gx.to hb3); (try ((first | (with_reducible have gx := newvarN ha) | (with_reducible have gx := newvarN (undrew ha)) | (with_reducible have gx := newvarN (unalloc ha)) | (with_reducible have gx := newvarN (undrewalloc ha))); have gn0 := Nat.ne_of_lt (Nat.lt_of_lt_of_le l0 gx.1); have gn1 := Nat.ne_of_lt (Nat.lt_of_lt_of_le l1 gx.1); have gge := Nat.le_trans gB.out.size gx.1)); replace gB := Lib.hid (onto gB.out hb3); replace s0_0 := keepc hb3 s0_0 l0; replace s0_1 := keepc hb3 s0_1 l0; replace s0_2 := keepc hb3 s0_2 l0; replace s0_3 := keepc hb3 s0_3 l0; replace s0_4 := keepc hb3 s0_4 l0; replace rz := rz.to hb3; replace l0 := Nat.lt_of_lt_of_le l0 hb3.size; replace l1 := Nat.lt_of_lt_of_le l1 hb3.size; replace hx1 := hx1.to hb3; replace hx2 := hx2.to hb3; replace hx3 := hx3.to hb3; replace h2 := h2.to hb3; replace HW := Lib.hid (hstep HW hb3); clear hb3; clear ha; (try (have gy := gx; obtain ⟨_, gl, ⟨gc0, gc1, gc2, gc3, gc4⟩, gf0, gf1, gf2, gf3, gf4⟩ := gy))))
    all_goals
      go_wp2_with fail
      go_meet
      first | with_reducible exact ⟨varNum_set gB.out gx gge z3, rfl, frozN_set gx⟩ | with_reducible exact ⟨varNum_new gB.out z3, rfl, frozN_new _ _ _⟩
  case rest =>
  obtain ⟨⟨g0, V01, V02, V03, hp0, ⟨t0_0, t0_1, t0_2, t0_3, t0_4⟩, hv0, hg0, l100, hb2⟩, hev, hfz⟩ := hcut
  obtain ⟨hv01, hv02, hv03⟩ := hv0
  subst hp0 hev
  replace hfz := hfz _ rfl
  have n100 : g0 ≠ w.heap.size + 1 := by omega
  have m100 : w.heap.size ≤ g0 := by omega
  obtain ⟨w2, rfl⟩ : ∃ X : World, X = wc := ⟨_, rfl⟩
  replace s0_0 := keepc hb2 s0_0 l0
  replace s0_1 := keepc hb2 s0_1 l0
  replace s0_2 := keepc hb2 s0_2 l0
  replace s0_3 := keepc hb2 s0_3 l0
  replace s0_4 := keepc hb2 s0_4 l0
  replace rz := rz.to hb2
  replace l0 := Nat.lt_of_lt_of_le l0 hb2.size
  replace l1 := Nat.lt_of_lt_of_le l1 hb2.size
  replace hx1 := hx1.to hb2
  replace hx2 := hx2.to hb2
  replace hx3 := hx3.to hb2
  replace HW := Lib.hid (hstep HW hb2)
  clear hb2
  have k0 := s0_0
  rw [HS.out] at k0
  clear s0_0
  cases sg
  case false =>
    obtain ⟨_, _, ⟨r0, r1, r2, r3, r4⟩, f0, f1, f2, f3, f4⟩ := rz
    go_wp2_with fail
    exact bodyPost_ret (v := .tuple #[.agg #[.bool (sn (na Q)), .slice V01 (ln (ab (na Q))) (ln (ab (na Q))), .bool (sn (nb Q)), .slice V02 (ln (ab (nb Q))) (ln (ab (nb Q))), .slice V03 (ln (un Q)) (ln (un Q))], .bool b]) (by simp [results, Tryz.results71, go_sem, r0, r1, r2, r3, r4, f0, f1, f2, f3, f4]) rfl ⟨b, Q, F1.out (by simp), ZQ.out.mono (by omega), retNumB_fin HW ⟨hv01, hv02, hv03⟩ (by omega) r0⟩
  case true =>
  have z0 := hfz 0 (by omega)
  have z1 := hfz 1 (by omega)
  have z2 := hfz 2 (by omega)
  have z3 := hfz 3 (by omega)
  have z4 := hfz 4 (by omega)
  obtain ⟨_, _, ⟨r0, r1, r2, r3, r4⟩, f0, f1, f2, f3, f4⟩ := rz
  go_upto_region 5 with fail
  obtain ⟨X, hX⟩ : ∃ X : World, X = (((((w2.setCell ⟨g0, 0, none⟩ (.bool false)).setCell ⟨g0, 1, none⟩ (.slice none 0 0)).setCell ⟨g0, 2, none⟩ (.bool (sn (na Q)))).setCell ⟨g0, 3, none⟩ (.slice V01 (ln (ab (na Q))) (ln (ab (na Q))))).setCell ⟨g0, 4, none⟩ (.slice V03 (ln (un Q)) (ln (un Q)))) := ⟨_, rfl⟩
  rw [← hX]
  have S5 := sets_mk t0_0 t0_1 t0_2 t0_3 t0_4 hX
  clear hX
  have y0 := S5.c0
  have y1 := S5.c1
  have y2 := S5.c2
  have y3 := S5.c3
  have y4 := S5.c4
  replace r0 := S5.oth _ _ _ (Ne.symm n100) r0
  replace f0 := S5.fro _ _ _ f0
  replace r1 := S5.oth _ _ _ (Ne.symm n100) r1
  replace f1 := S5.fro _ _ _ f1
  replace r2 := S5.oth _ _ _ (Ne.symm n100) r2
  replace f2 := S5.fro _ _ _ f2
  replace r3 := S5.oth _ _ _ (Ne.symm n100) r3
  replace f3 := S5.fro _ _ _ f3
  replace r4 := S5.oth _ _ _ (Ne.symm n100) r4
  replace f4 := S5.fro _ _ _ f4
  have n1 := S5.nat _ _ hv01
  have n3 := S5.nat _ _ hv03
  replace HW : Hid (Below w.heap.size w X) := Lib.hid (S5.bel w HW.out m100)
  clear S5 hfz z0 z1 z2 z3 z4 t0_0 t0_1 t0_2 t0_3 t0_4 k0
  go_wp2_with fail
  refine bodyPost_ret (v := .tuple #[.agg #[.bool false, .slice none 0 0, .bool (sn (na Q)), .slice V01 (ln (ab (na Q))) (ln (ab (na Q))), .slice V03 (ln (un Q)) (ln (un Q))], .bool b]) (by simp [results, Tryz.results71, go_sem, r0, r1, r2, r3, r4, f0, f1, f2, f3, f4]) rfl ⟨b, _, F2.out (by simp), ZR.out, ?_⟩
  obtain ⟨e1, e2, e3⟩ := HF.out
  have h := retNumB_fin (b := b) (q := ⟨0, Q.re⟩) (A1 := none) (A2 := V01) (A3 := V03) HW ⟨by rw [e1]; exact fun e => absurd rfl e, by rw [e2]; exact n1, by rw [e3]; exact n3⟩ (by omega) r0
  rw [e1, e2, e3, sn_zero, show ab 0 = 0 from rfl, ln_zero] at h
  exact h

theorem add_e (z x y : Cx) (h : x.add y = z) (A1 A2 A3 B1 B2 B3 : Option Addr) (w : World) (hx : Num3 w A1 A2 A3 x) (hy : Num3 w B1 B2 B3 y) (hsx : sz 137438953472 x) (hsy : sz 137438953472 y) :
    Calls Tryz.prog 26 #[.agg #[.bool (sn (na x)), .slice A1 (ln (ab (na x))) (ln (ab (na x))), .bool (sn (nb x)), .slice A2 (ln (ab (nb x))) (ln (ab (nb x))), .slice A3 (ln (un x)) (ln (un x))], .agg #[.bool (sn (na y)), .slice B1 (ln (ab (na y))) (ln (ab (na y))), .bool (sn (nb y)), .slice B2 (ln (ab (nb y))) (ln (ab (nb y))), .slice B3 (ln (un y)) (ln (un y))]] w (RetNum w z) := by
  subst h; exact add_num x y A1 A2 A3 B1 B2 B3 w hx hy hsx hsy
theorem div_e (z x y : Cx) (h : x.div y = z) (A1 A2 A3 B1 B2 B3 : Option Addr) (w : World) (hx : Num3 w A1 A2 A3 x) (hy : Num3 w B1 B2 B3 y) (hsx : sz 137438953472 x) (hsy : sz 137438953472 y) (h0 : y ≠ Cx.zero) :
    Calls Tryz.prog 32 #[.agg #[.bool (sn (na x)), .slice A1 (ln (ab (na x))) (ln (ab (na x))), .bool (sn (nb x)), .slice A2 (ln (ab (nb x))) (ln (ab (nb x))), .slice A3 (ln (un x)) (ln (un x))], .agg #[.bool (sn (na y)), .slice B1 (ln (ab (na y))) (ln (ab (na y))), .bool (sn (nb y)), .slice B2 (ln (ab (nb y))) (ln (ab (nb y))), .slice B3 (ln (un y)) (ln (un y))]] w (RetNumE w 0 z) := by
  subst h; exact div_num0 x y A1 A2 A3 B1 B2 B3 w hx hy hsx hsy h0
set_option maxRecDepth 100000 in
set_option maxHeartbeats 4000000 in
theorem sqrt_nr (x : Cx) (A1 A2 A3 : Option Addr) (w : World) (hx : Num3 w A1 A2 A3 x) (hsx : sz 1000000 x) (h : nb x ≠ 0) (M1 M2 M : Int) (r : Nat) (hM1 : na x * na x = M1) (hM2 : nb x * nb x = M2) (hM : M1 + M2 = M) (hr : rt (ab M) = r) (S : Int) (L : Nat) (Q : Cx) (hS : na x + (r : Int) = S) (hL : L = nd x * 2) (hQ : ratQ (ab S) L = Q) (p b : Bool) (hp : isq (ab M) = p) (hb : ratB (ab S) L = b) (F1 : p = false → IsRt x false Cx.zero) (F2 : p = true → b = false → IsRt x false Cx.zero) (F3 : p = true → b = true → Q.add Q ≠ Cx.zero ∧ IsRt x true (Q.add ((x.imOf.div (Q.add Q)).mul ⟨0, 1⟩))) :
    Calls Tryz.prog 71 #[.agg #[.bool (sn (na x)), .slice A1 (ln (ab (na x))) (ln (ab (na x))), .bool (sn (nb x)), .slice A2 (ln (ab (nb x))) (ln (ab (nb x))), .slice A3 (ln (un x)) (ln (un x))]] w (RetRoot w x) := by
  obtain ⟨hx1, hx2, hx3⟩ := hx
  have HSX := Lib.hid hsx
  have t : decide (nb x = 0) = false := decide_eq_false h
  have lM1 : Hid (ln (ab M1) ≤ 2000000) := Lib.hid (by rw [← hM1]; exact ab_mul_ln hsx.1 hsx.1)
  have lM2 : Hid (ln (ab M2) ≤ 2000000) := Lib.hid (by rw [← hM2]; exact ab_mul_ln hsx.2.1 hsx.2.1)
  have lM : Hid (ln (ab M) ≤ 2000001) := Lib.hid (by rw [← hM]; exact ab_add_ln lM1.out lM2.out)
  have lr : Hid (ln r ≤ 2000001) := Lib.hid (by rw [← hr]; exact Nat.le_trans (ln_mono (rt_self _)) lM.out)
  have HM1 := Lib.hid hM1
  have HM2 := Lib.hid hM2
  have HM := Lib.hid hM
  have HR := Lib.hid hr
  have HP := Lib.hid hp
  have lS : Hid (ln (ab S) ≤ 2000002) := Lib.hid (by rw [← hS]; exact ab_add_ln (Nat.le_trans hsx.1 (by omega)) (ab_nat_ln lr.out))
  have lL : Hid (ln L ≤ 1000001) := Lib.hid (by rw [hL]; have := ln_mul (nd x) 2; have : ln 2 ≤ 1 := ln_le (by decide); have := hsx.2.2; omega)
  have L0 : Hid (L ≠ 0) := Lib.hid (by rw [hL]; have := nd_pos x; omega)
  have HS := Lib.hid hS
  have HL := Lib.hid hL
  have HQ := Lib.hid hQ
  have HB := Lib.hid hb
  have zQ : Hid (sz 3000000 Q) := Lib.hid (by rw [← hQ]; exact sz_ratQ (by omega) (Nat.le_trans lS.out (by omega)) (Nat.le_trans lL.out (by omega)) L0.out)
  obtain ⟨i, hi⟩ : ∃ i : Cx, i = ⟨0, 1⟩ := ⟨_, rfl⟩
  obtain ⟨z, hz⟩ : ∃ z : Int, z = 1 := ⟨_, rfl⟩
  obtain ⟨Q2, hQ2⟩ : ∃ q, q = Q.add Q := ⟨_, rfl⟩
  obtain ⟨E, hE⟩ : ∃ q, q = x.imOf.div Q2 := ⟨_, rfl⟩
  rw [← hQ2, ← hE, ← hi] at F3
  have zQ2 : Hid (sz 7000000 Q2) := Lib.hid (by rw [hQ2]; exact sz.mono (sz_add zQ.out zQ.out) (by omega))
  have zI : Hid (sz 1000000 x.imOf) := Lib.hid (sz_im hsx)
  have HI := Lib.hid hi
  have HZ := Lib.hid hz
  have HQ2 := Lib.hid hQ2.symm
  have HE := Lib.hid hE.symm
  replace F1 := Lib.hid F1
  replace F2 := Lib.hid F2
  replace F3 := Lib.hid F3
  clear hsx h hp hb hM1 hM2 hM hr hS hL hQ hi hz hQ2 hE
  go_enter Tryz.func71, Tryz.ntmps71
  go_wp2_with fail
  obtain ⟨W, hW⟩ : ∃ W : World, W = ((w.alloc (.cells #[.bool (sn (na x)), .slice A1 (ln (ab (na x))) (ln (ab (na x))), .bool (sn (nb x)), .slice A2 (ln (ab (nb x))) (ln (ab (nb x))), .slice A3 (ln (un x)) (ln (un x))] 30)).alloc (.cells #[.bool false, .slice none 0 0, .bool false, .slice none 0 0, .slice none 0 0] 30)) := ⟨_, rfl⟩
  have s0_0 : W.cell? ⟨w.heap.size, 0, none⟩ = some (.bool (sn (na x))) := by subst hW; go_simp
  have s0_1 : W.cell? ⟨w.heap.size, 1, none⟩ = some (.slice A1 (ln (ab (na x))) (ln (ab (na x)))) := by subst hW; go_simp
  have s0_2 : W.cell? ⟨w.heap.size, 2, none⟩ = some (.bool (sn (nb x))) := by subst hW; go_simp
  have s0_3 : W.cell? ⟨w.heap.size, 3, none⟩ = some (.slice A2 (ln (ab (nb x))) (ln (ab (nb x)))) := by subst hW; go_simp
  have s0_4 : W.cell? ⟨w.heap.size, 4, none⟩ = some (.slice A3 (ln (un x)) (ln (un x))) := by subst hW; go_simp
  have r0 : W.cell? ⟨w.heap.size + 1, 0, none⟩ = some (.bool false) := by subst hW; go_simp
  have f0 : W.frozen? ⟨w.heap.size + 1, 0, none⟩ = false := by subst hW; go_simp
  have r1 : W.cell? ⟨w.heap.size + 1, 1, none⟩ = some (.slice none 0 0) := by subst hW; go_simp
  have f1 : W.frozen? ⟨w.heap.size + 1, 1, none⟩ = false := by subst hW; go_simp
  have r2 : W.cell? ⟨w.heap.size + 1, 2, none⟩ = some (.bool false) := by subst hW; go_simp
  have f2 : W.frozen? ⟨w.heap.size + 1, 2, none⟩ = false := by subst hW; go_simp
  have r3 : W.cell? ⟨w.heap.size + 1, 3, none⟩ = some (.slice none 0 0) := by subst hW; go_simp
  have f3 : W.frozen? ⟨w.heap.size + 1, 3, none⟩ = false := by subst hW; go_simp
  have r4 : W.cell? ⟨w.heap.size + 1, 4, none⟩ = some (.slice none 0 0) := by subst hW; go_simp
  have f4 : W.frozen? ⟨w.heap.size + 1, 4, none⟩ = false := by subst hW; go_simp
  have HW : Below w.heap.size w W := by subst hW; exact (((Below.refl w.heap.size w).alloc (Nat.le_refl _) _).alloc (by simp) _)
  have l0 : w.heap.size < W.heap.size := by subst hW; simp <;> omega
  have l1 : w.heap.size + 1 < W.heap.size := by subst hW; simp
  have n0 : w.heap.size ≠ w.heap.size + 1 := by omega
  replace hx1 := hx1.to HW
  replace hx2 := hx2.to HW
  replace hx3 := hx3.to HW
  have rz : NewVarN 0 (w.heap.size + 1) W := ⟨Nat.zero_le _, l1, ⟨r0, r1, r2, r3, r4⟩, f0, f1, f2, f3, f4⟩
  clear r0 r1 r2 r3 r4 f0 f1 f2 f3 f4
  rw [← hW]
  clear hW
  replace HW := Lib.hid HW
  refine (real_any x A1 A2 A3 _ (by exact num3_mk hx1 hx2 hx3)).mono ?_
  rintro e w1 ⟨rfl, hb1⟩
  replace s0_0 := keepc hb1 s0_0 l0
  replace s0_1 := keepc hb1 s0_1 l0
  replace s0_2 := keepc hb1 s0_2 l0
  replace s0_3 := keepc hb1 s0_3 l0
  replace s0_4 := keepc hb1 s0_4 l0
  replace rz := rz.to hb1
  replace l0 := Nat.lt_of_lt_of_le l0 hb1.size
  replace l1 := Nat.lt_of_lt_of_le l1 hb1.size
  replace hx1 := hx1.to hb1
  replace hx2 := hx2.to hb1
  replace hx3 := hx3.to hb1
  replace HW := Lib.hid (hstep HW hb1)
  clear hb1
  rw [t]
  have FM := field_mag
  go_upto_region 6 with fail
  go_region_held3 (fun w' => w'.cell? ⟨w.heap.size, 0, none⟩ = some (.bool (sn (na x))) ∧ w'.cell? ⟨w.heap.size, 1, none⟩ = some (.slice A1 (ln (ab (na x))) (ln (ab (na x)))) ∧ w'.cell? ⟨w.heap.size, 2, none⟩ = some (.bool (sn (nb x))) ∧ w'.cell? ⟨w.heap.size, 3, none⟩ = some (.slice A2 (ln (ab (nb x))) (ln (ab (nb x)))) ∧ w'.cell? ⟨w.heap.size, 4, none⟩ = some (.slice A3 (ln (un x)) (ln (un x)))) (first | with_reducible exact ⟨s0_0, s0_1, s0_2, s0_3, s0_4⟩ | with_reducible exact ⟨(keeps (keeps (keeps (keeps (keeps s0_0 n0) n0) n0) n0) n0), (keeps (keeps (keeps (keeps (keeps s0_1 n0) n0) n0) n0) n0), (keeps (keeps (keeps (keeps (keeps s0_2 n0) n0) n0) n0) n0), (keeps (keeps (keeps (keeps (keeps s0_3 n0) n0) n0) n0) n0), (keeps (keeps (keeps (keeps (keeps s0_4 n0) n0) n0) n0) n0)⟩ | exact ⟨s0_0, s0_1, s0_2, s0_3, s0_4⟩) (first
    | (have _ := mk2; go_at_call 133; refine (square_nm (ab M) r p HR.out HP.out T3 _ (by exact i3) (Nat.le_trans lM.out (by omega))).mono ?_; rintro e w5 ⟨T4, rfl, i4, hb5⟩; replace s0_0 := keepc hb5 s0_0 l0; replace s0_1 := keepc hb5 s0_1 l0; replace s0_2 := keepc hb5 s0_2 l0; replace s0_3 := keepc hb5 s0_3 l0; replace s0_4 := keepc hb5 s0_4 l0; replace rz := rz.to hb5; replace l0 := Nat.lt_of_lt_of_le l0 hb5.size; replace l1 := Nat.lt_of_lt_of_le l1 hb5.size; replace hx1 := hx1.to hb5; replace hx2 := hx2.to hb5; replace hx3 := hx3.to hb5; replace i1 := i1.to hb5; replace i2 := i2.to hb5; replace i3 := i3.to hb5; replace HW := Lib.hid (hstep HW hb5); clear hb5; have mk3 : True := trivial)
    | (have _ := mk1; go_at_call 98; refine (plus_e M M1 M2 HM.out T1 T2 _ (by exact i1) (by exact i2) (Nat.le_trans lM1.out (by omega)) (Nat.le_trans lM2.out (by omega))).mono ?_; rintro e w4 ⟨T3, rfl, i3, hb4⟩; replace s0_0 := keepc hb4 s0_0 l0; replace s0_1 := keepc hb4 s0_1 l0; replace s0_2 := keepc hb4 s0_2 l0; replace s0_3 := keepc hb4 s0_3 l0; replace s0_4 := keepc hb4 s0_4 l0; replace rz := rz.to hb4; replace l0 := Nat.lt_of_lt_of_le l0 hb4.size; replace l1 := Nat.lt_of_lt_of_le l1 hb4.size; replace hx1 := hx1.to hb4; replace hx2 := hx2.to hb4; replace hx3 := hx3.to hb4; replace i1 := i1.to hb4; replace i2 := i2.to hb4; replace HW := Lib.hid (hstep HW hb4); clear hb4; have mk2 : True := trivial)
    | (have _ := mk0; go_at_call 104; refine (times_e M2 (nb x) (nb x) HM2.out A2 A2 _ (by exact hx2) (by exact hx2) (by have := HSX.out; unfold sz at this; omega) (by have := HSX.out; unfold sz at this; omega)).mono ?_; rintro e w3 ⟨T2, rfl, i2, hb3⟩; replace s0_0 := keepc hb3 s0_0 l0; replace s0_1 := keepc hb3 s0_1 l0; replace s0_2 := keepc hb3 s0_2 l0; replace s0_3 := keepc hb3 s0_3 l0; replace s0_4 := keepc hb3 s0_4 l0; replace rz := rz.to hb3; replace l0 := Nat.lt_of_lt_of_le l0 hb3.size; replace l1 := Nat.lt_of_lt_of_le l1 hb3.size; replace hx1 := hx1.to hb3; replace hx2 := hx2.to hb3; replace hx3 := hx3.to hb3; replace i1 := i1.to hb3; replace HW := Lib.hid (hstep HW hb3); clear hb3; have mk1 : True := trivial)
    | (go_at_call 104; refine (times_e M1 (na x) (na x) HM1.out A1 A1 _ (by exact hx1) (by exact hx1) (by have := HSX.out; unfold sz at this; omega) (by have := HSX.out; unfold sz at this; omega)).mono ?_; rintro e w2 ⟨T1, rfl, i1, hb2⟩; have hb2 := undrew hb2; replace s0_0 := keepc hb2 s0_0 l0; replace s0_1 := keepc hb2 s0_1 l0; replace s0_2 := keepc hb2 s0_2 l0; replace s0_3 := keepc hb2 s0_3 l0; replace s0_4 := keepc hb2 s0_4 l0; replace rz := rz.to hb2; replace l0 := Nat.lt_of_lt_of_le l0 hb2.size; replace l1 := Nat.lt_of_lt_of_le l1 hb2.size; replace hx1 := hx1.to hb2; replace hx2 := hx2.to hb2; replace hx3 := hx3.to hb2; replace HW := Lib.hid (hstep HW hb2); clear hb2; have mk0 : True := trivial))
  go_upto_region 7 with fail
  cases p
  case false =>
    obtain ⟨_, _, ⟨r0, r1, r2, r3, r4⟩, f0, f1, f2, f3, f4⟩ := rz
    go_wp2_with fail
    refine bodyPost_ret (v := .tuple #[.agg #[.bool false, .slice none 0 0, .bool false, .slice none 0 0, .slice none 0 0], .bool false]) (by simp [results, Tryz.results71, go_sem, r0, r1, r2, r3, r4, f0, f1, f2, f3, f4]) rfl ⟨false, Cx.zero, F1.out (by simp), sz_int0.mono (by omega), ?_⟩
    obtain ⟨e1, e2, e3⟩ := zero_form
    have h := retNumB_fin (b := false) (q := Cx.zero) (A1 := none) (A2 := none) (A3 := none) HW ⟨by rw [e1]; exact fun e => absurd rfl e, by rw [e2]; exact fun e => absurd rfl e, by rw [e3]; exact fun e => absurd rfl e⟩ (by omega) r0
    rw [e1, e2, e3, sn_zero, show ab 0 = 0 from rfl, ln_zero] at h
    exact h
  case true =>
  go_upto_region 9 with fail
  go_cut [8] (fun p wx => VarWhole w5 (S) p wx)
  case first =>
    have gB : Hid (Below w5.heap.size w5 w5) := Lib.hid (Below.refl _ _)
    go_region_held3 (fun w' => w'.cell? ⟨w.heap.size, 0, none⟩ = some (.bool (sn (na x))) ∧ w'.cell? ⟨w.heap.size, 1, none⟩ = some (.slice A1 (ln (ab (na x))) (ln (ab (na x))))) (first | with_reducible exact ⟨s0_0, s0_1⟩ | with_reducible exact ⟨(keepa s0_0 l0), (keepa s0_1 l0)⟩ | with_reducible exact ⟨(keeps (keeps s0_0 gn0) gn0), (keeps (keeps s0_1 gn0) gn0)⟩ | exact ⟨s0_0, s0_1⟩ | exact ⟨(keepa s0_0 l0), (keepa s0_1 l0)⟩) (first
      | (go_at_call 123; refine (wholeOf_pos r T4 _ (by first | with_reducible exact i4 | with_reducible exact i4.alloc _ | exact i4 | exact i4.alloc _)).mono ?_; rintro e w6 ⟨W1, rfl, i6, ha6⟩; have hb6 : Below w5.heap.size w5 w6 := (by first | with_reducible exact ha6 | with_reducible exact undrew ha6 | with_reducible exact unalloc ha6 | with_reducible exact undrewalloc ha6 | with_reducible exact undrew (unalloc ha6)); (try replace ga0 := keepc hb6 ga0 gl); (try replace ga1 := keepc hb6 ga1 gl); (try replace gf0 := keepf hb6 gf0 gl); (try replace gf1 := keepf hb6 gf1 gl); (try replace gl := Nat.lt_of_lt_of_le gl hb6.size); (try (have gx := (by first | with_reducible exact newvar ha6 | with_reducible exact newvard ha6 | with_reducible exact newvare ha6 : NewVar w5 w6); have ga0 := gx.1; have ga1 := gx.2.1; have gf0 := gx.2.2.1; have gf1 := gx.2.2.2.1; have gl := gx.2.2.2.2; have gge := gB.out.size; have gn0 := Nat.ne_of_lt l0; have gn1 := Nat.ne_of_lt l1; clear gx)); replace gB := Lib.hid (onto gB.out hb6); replace s0_0 := keepc hb6 s0_0 l0; replace s0_1 := keepc hb6 s0_1 l0; replace s0_2 := keepc hb6 s0_2 l0; replace s0_3 := keepc hb6 s0_3 l0; replace s0_4 := keepc hb6 s0_4 l0; replace rz := rz.to hb6; replace l0 := Nat.lt_of_lt_of_le l0 hb6.size; replace l1 := Nat.lt_of_lt_of_le l1 hb6.size; replace hx1 := hx1.to hb6; replace hx2 := hx2.to hb6; replace hx3 := hx3.to hb6; replace i1 := i1.to hb6; replace i2 := i2.to hb6; replace i3 := i3.to hb6; replace i4 := i4.to hb6; replace HW := Lib.hid (hstep HW hb6); clear hb6; clear ha6)
      | (go_at_call 98; refine (plus_e S (na x) (r : Int) HS.out A1 W1 _ (by first | with_reducible exact hx1 | with_reducible exact hx1.alloc _ | exact hx1 | exact hx1.alloc _) (by first | with_reducible exact i6 | with_reducible exact i6.alloc _ | exact i6 | exact i6.alloc _) (by have := HSX.out; unfold sz at this; omega) (Nat.le_trans lr.out (by omega))).mono ?_; rintro e w7 ⟨W2, rfl, i7, ha7⟩; have hb7 : Below w6.heap.size w6 w7 := (by first | with_reducible exact ha7 | with_reducible exact undrew ha7 | with_reducible exact unalloc ha7 | with_reducible exact undrewalloc ha7 | with_reducible exact undrew (unalloc ha7)); (try replace ga0 := keepc hb7 ga0 gl); (try replace ga1 := keepc hb7 ga1 gl); (try replace gf0 := keepf hb7 gf0 gl); (try replace gf1 := keepf hb7 gf1 gl); (try replace gl := Nat.lt_of_lt_of_le gl hb7.size); (try (have gx := (by first | with_reducible exact newvar ha7 | with_reducible exact newvard ha7 | with_reducible exact newvare ha7 : NewVar w6 w7); have ga0 := gx.1; have ga1 := gx.2.1; have gf0 := gx.2.2.1; have gf1 := gx.2.2.2.1; have gl := gx.2.2.2.2; have gge := gB.out.size; have gn0 := Nat.ne_of_lt l0; have gn1 := Nat.ne_of_lt l1; clear gx)); replace gB := Lib.hid (onto gB.out hb7); replace s0_0 := keepc hb7 s0_0 l0; replace s0_1 := keepc hb7 s0_1 l0; replace s0_2 := keepc hb7 s0_2 l0; replace s0_3 := keepc hb7 s0_3 l0; replace s0_4 := keepc hb7 s0_4 l0; replace rz := rz.to hb7; replace l0 := Nat.lt_of_lt_of_le l0 hb7.size; replace l1 := Nat.lt_of_lt_of_le l1 hb7.size; replace hx1 := hx1.to hb7; replace hx2 := hx2.to hb7; replace hx3 := hx3.to hb7; replace i1 := i1.to hb7; replace i2 := i2.to hb7; replace i3 := i3.to hb7; replace i4 := i4.to hb7; replace i6 := i6.to hb7; replace HW := Lib.hid (hstep HW hb7); clear hb7; clear ha7))
    all_goals
      go_wp2_with fail
      go_meet
      first | exact varWhole_set gB.out ga0 ga1 gf0 gf1 i7 gge gl | exact varWhole_new gB.out i7
  case rest =>
  obtain ⟨g0, V0, hp0, t0_0, t0_1, u0_0, u0_1, hv0, hg0, l100, hb6⟩ := hcut
  subst hp0
  have n100 : g0 ≠ w.heap.size + 1 := by omega
  obtain ⟨w6, rfl⟩ : ∃ X : World, X = wc := ⟨_, rfl⟩
  replace s0_0 := keepc hb6 s0_0 l0
  replace s0_1 := keepc hb6 s0_1 l0
  replace s0_2 := keepc hb6 s0_2 l0
  replace s0_3 := keepc hb6 s0_3 l0
  replace s0_4 := keepc hb6 s0_4 l0
  replace rz := rz.to hb6
  replace l0 := Nat.lt_of_lt_of_le l0 hb6.size
  replace l1 := Nat.lt_of_lt_of_le l1 hb6.size
  replace hx1 := hx1.to hb6
  replace hx2 := hx2.to hb6
  replace hx3 := hx3.to hb6
  replace i1 := i1.to hb6
  replace i2 := i2.to hb6
  replace i3 := i3.to hb6
  replace i4 := i4.to hb6
  replace HW := Lib.hid (hstep HW hb6)
  clear hb6
  go_upto_region 10 with fail
  go_cut [9, 7] (fun p ev wx => VarNum w6 (Q) p wx ∧ ev = .bool b ∧ FrozN wx p)
  case first =>
    have gB : Hid (Below w6.heap.size w6 w6) := Lib.hid (Below.refl _ _)
    go_region_held3 (fun w' => w'.cell? ⟨w.heap.size, 0, none⟩ = some (.bool (sn (na x))) ∧ w'.cell? ⟨w.heap.size, 1, none⟩ = some (.slice A1 (ln (ab (na x))) (ln (ab (na x)))) ∧ w'.cell? ⟨w.heap.size, 2, none⟩ = some (.bool (sn (nb x))) ∧ w'.cell? ⟨w.heap.size, 3, none⟩ = some (.slice A2 (ln (ab (nb x))) (ln (ab (nb x)))) ∧ w'.cell? ⟨w.heap.size, 4, none⟩ = some (.slice A3 (ln (un x)) (ln (un x))) ∧ w'.cell? ⟨g0, 0, none⟩ = some (.bool (sn (S))) ∧ w'.cell? ⟨g0, 1, none⟩ = some (.slice V0 (ln (ab (S))) (ln (ab (S))))) (first | with_reducible exact ⟨s0_0, s0_1, s0_2, s0_3, s0_4, t0_0, t0_1⟩ | with_reducible exact ⟨(keepa s0_0 l0), (keepa s0_1 l0), (keepa s0_2 l0), (keepa s0_3 l0), (keepa s0_4 l0), (keepa t0_0 l100), (keepa t0_1 l100)⟩ | with_reducible exact ⟨(keepa (keepa s0_0 l0) (lta l0)), (keepa (keepa s0_1 l0) (lta l0)), (keepa (keepa s0_2 l0) (lta l0)), (keepa (keepa s0_3 l0) (lta l0)), (keepa (keepa s0_4 l0) (lta l0)), (keepa (keepa t0_0 l100) (lta l100)), (keepa (keepa t0_1 l100) (lta l100))⟩ | with_reducible exact ⟨(keepd s0_0), (keepd s0_1), (keepd s0_2), (keepd s0_3), (keepd s0_4), (keepd t0_0), (keepd t0_1)⟩ | with_reducible exact ⟨(keepd (keepa s0_0 l0)), (keepd (keepa s0_1 l0)), (keepd (keepa s0_2 l0)), (keepd (keepa s0_3 l0)), (keepd (keepa s0_4 l0)), (keepd (keepa t0_0 l100)), (keepd (keepa t0_1 l100))⟩ | with_reducible exact ⟨(keepd (keepa (keepa s0_0 l0) (lta l0))), (keepd (keepa (keepa s0_1 l0) (lta l0))), (keepd (keepa (keepa s0_2 l0) (lta l0))), (keepd (keepa (keepa s0_3 l0) (lta l0))), (keepd (keepa (keepa s0_4 l0) (lta l0))), (keepd (keepa (keepa t0_0 l100) (lta l100))), (keepd (keepa (keepa t0_1 l100) (lta l100)))⟩ | (have _ := gx; with_reducible exact ⟨(keeps (keeps (keeps (keeps (keeps s0_0 gn0) gn0) gn0) gn0) gn0), (keeps (keeps (keeps (keeps (keeps s0_1 gn0) gn0) gn0) gn0) gn0), (keeps (keeps (keeps (keeps (keeps s0_2 gn0) gn0) gn0) gn0) gn0), (keeps (keeps (keeps (keeps (keeps s0_3 gn0) gn0) gn0) gn0) gn0), (keeps (keeps (keeps (keeps (keeps s0_4 gn0) gn0) gn0) gn0) gn0), (keeps (keeps (keeps (keeps (keeps t0_0 gn100) gn100) gn100) gn100) gn100), (keeps (keeps (keeps (keeps (keeps t0_1 gn100) gn100) gn100) gn100) gn100)⟩)) (first
      | (go_at_call 89; refine (den_any x A1 A2 A3 _ (by first | with_reducible exact num3_mk hx1 hx2 hx3 | with_reducible exact num3_alloc (num3_mk hx1 hx2 hx3) | exact num3_mk hx1 hx2 hx3 | exact num3_alloc (num3_mk hx1 hx2 hx3))).mono ?_; rintro e w7 ⟨D1, rfl, d1, ha⟩; have hb7 : Below w6.heap.size w6 w7 := (by first | with_reducible exact ha | with_reducible exact undrew ha | with_reducible exact unalloc ha | with_reducible exact undrewalloc ha | with_reducible exact undrew (unalloc ha)); (try replace gx := gx.to hb7); (try ((first | (with_reducible have gx := newvarN ha) | (with_reducible have gx := newvarN (undrew ha)) | (with_reducible have gx := newvarN (unalloc ha)) | (with_reducible have gx := newvarN (undrewalloc ha))); have gn0 := Nat.ne_of_lt (Nat.lt_of_lt_of_le l0 gx.1); have gn1 := Nat.ne_of_lt (Nat.lt_of_lt_of_le l1 gx.1); have gn100 := Nat.ne_of_lt (Nat.lt_of_lt_of_le l100 gx.1); have gge := Nat.le_trans gB.out.size gx.1)); replace gB := Lib.hid (onto gB.out hb7); replace s0_0 := keepc hb7 s0_0 l0; replace s0_1 := keepc hb7 s0_1 l0; replace s0_2 := keepc hb7 s0_2 l0; replace s0_3 := keepc hb7 s0_3 l0; replace s0_4 := keepc hb7 s0_4 l0; replace t0_0 := keepc hb7 t0_0 l100; replace t0_1 := keepc hb7 t0_1 l100; replace rz := rz.to hb7; replace l0 := Nat.lt_of_lt_of_le l0 hb7.size; replace l1 := Nat.lt_of_lt_of_le l1 hb7.size; replace l100 := Nat.lt_of_lt_of_le l100 hb7.size; replace hx1 := hx1.to hb7; replace hx2 := hx2.to hb7; replace hx3 := hx3.to hb7; replace i1 := i1.to hb7; replace i2 := i2.to hb7; replace i3 := i3.to hb7; replace i4 := i4.to hb7; replace hv0 := hv0.to hb7; replace HW := Lib.hid (hstep HW hb7); clear hb7; clear ha)
      | (go_at_call 114; refine (shl_two (nd x) L HL.out D1 _ (by first | with_reducible exact d1 | with_reducible exact d1.alloc _ | exact d1 | exact d1.alloc _) (by have := HSX.out; unfold sz at this; omega)).mono ?_; rintro e w8 ⟨D2, rfl, d2, ha⟩; have hb8 : Below w7.heap.size w7 w8 := (by first | with_reducible exact ha | with_reducible exact undrew ha | with_reducible exact unalloc ha | with_reducible exact undrewalloc ha | with_reducible exact undrew (unalloc ha)); (try replace gx := gx.to hb8); (try ((first | (with_reducible have gx := newvarN ha) | (with_reducible have gx := newvarN (undrew ha)) | (with_reducible have gx := newvarN (unalloc ha)) | (with_reducible have gx := newvarN (undrewalloc ha))); have gn0 := Nat.ne_of_lt (Nat.lt_of_lt_of_le l0 gx.1); have gn1 := Nat.ne_of_lt (Nat.lt_of_lt_of_le l1 gx.1); have gn100 := Nat.ne_of_lt (Nat.lt_of_lt_of_le l100 gx.1); have gge := Nat.le_trans gB.out.size gx.1)); replace gB := Lib.hid (onto gB.out hb8); replace s0_0 := keepc hb8 s0_0 l0; replace s0_1 := keepc hb8 s0_1 l0; replace s0_2 := keepc hb8 s0_2 l0; replace s0_3 := keepc hb8 s0_3 l0; replace s0_4 := keepc hb8 s0_4 l0; replace t0_0 := keepc hb8 t0_0 l100; replace t0_1 := keepc hb8 t0_1 l100; replace rz := rz.to hb8; replace l0 := Nat.lt_of_lt_of_le l0 hb8.size; replace l1 := Nat.lt_of_lt_of_le l1 hb8.size; replace l100 := Nat.lt_of_lt_of_le l100 hb8.size; replace hx1 := hx1.to hb8; replace hx2 := hx2.to hb8; replace hx3 := hx3.to hb8; replace i1 := i1.to hb8; replace i2 := i2.to hb8; replace i3 := i3.to hb8; replace i4 := i4.to hb8; replace hv0 := hv0.to hb8; replace d1 := d1.to hb8; replace HW := Lib.hid (hstep HW hb8); clear hb8; clear ha)
      | (go_at_call 132; refine (rational_e (ab S) L b Q HB.out HQ.out V0 D2 _ (by first | with_reducible exact hv0 | with_reducible exact hv0.alloc _ | exact hv0 | exact hv0.alloc _) (by first | with_reducible exact d2 | with_reducible exact d2.alloc _ | exact d2 | exact d2.alloc _) (Nat.le_trans lS.out (by omega)) (Nat.le_trans lL.out (by omega)) L0.out).mono ?_; rintro e w9 ⟨Z1, Z2, Z3, rfl, z9, ha⟩; have hb9 : Below w8.heap.size w8 w9 := (by first | with_reducible exact ha | with_reducible exact undrew ha | with_reducible exact unalloc ha | with_reducible exact undrewalloc ha | with_reducible exact undrew (unalloc ha)); (try replace gx := gx.to hb9); (try ((first | (with_reducible have gx := newvarN ha) | (with_reducible have gx := newvarN (undrew ha)) | (with_reducible have gx := newvarN (unalloc ha)) | (with_reducible have gx := newvarN (undrewalloc ha))); have gn0 := Nat.ne_of_lt (Nat.lt_of_lt_of_le l0 gx.1); have gn1 := Nat.ne_of_lt (Nat.lt_of_lt_of_le l1 gx.1); have gn100 := Nat.ne_of_lt (Nat.lt_of_lt_of_le l100 gx.1); have gge := Nat.le_trans gB.out.size gx.1)); replace gB := Lib.hid (onto gB.out hb9); replace s0_0 := keepc hb9 s0_0 l0; replace s0_1 := keepc hb9 s0_1 l0; replace s0_2 := keepc hb9 s0_2 l0; replace s0_3 := keepc hb9 s0_3 l0; replace s0_4 := keepc hb9 s0_4 l0; replace t0_0 := keepc hb9 t0_0 l100; replace t0_1 := keepc hb9 t0_1 l100; replace rz := rz.to hb9; replace l0 := Nat.lt_of_lt_of_le l0 hb9.size; replace l1 := Nat.lt_of_lt_of_le l1 hb9.size; replace l100 := Nat.lt_of_lt_of_le l100 hb9.size; replace hx1 := hx1.to hb9; replace hx2 := hx2.to hb9; replace hx3 := hx3.to hb9; replace i1 := i1.to hb9; replace i2 := i2.to hb9; replace i3 := i3.to hb9; replace i4 := i4.to hb9; replace hv0 := hv0.to hb9; replace d1 := d1.to hb9; replace d2 := d2.to hb9; replace HW := Lib.hid (hstep HW hb9); clear hb9; clear ha; (try (have gy := gx; obtain ⟨_, gl, ⟨gc0, gc1, gc2, gc3, gc4⟩, gf0, gf1, gf2, gf3, gf4⟩ := gy))))
    all_goals
      go_wp2_with fail
      go_meet
      first | with_reducible exact ⟨varNum_set gB.out gx gge z9, rfl, frozN_set gx⟩ | with_reducible exact ⟨varNum_new gB.out z9, rfl, frozN_new _ _ _⟩
  case rest =>
  obtain ⟨⟨g1, V11, V12, V13, hp1, ⟨t1_0, t1_1, t1_2, t1_3, t1_4⟩, hv1, hg1, l101, hb7⟩, hev, hfz⟩ := hcut
  obtain ⟨hv11, hv12, hv13⟩ := hv1
  subst hp1 hev
  replace hfz := hfz _ rfl
  have n101 : g1 ≠ w.heap.size + 1 := by omega
  have m101 : w.heap.size ≤ g1 := by omega
  obtain ⟨w7, rfl⟩ : ∃ X : World, X = wc := ⟨_, rfl⟩
  replace s0_0 := keepc hb7 s0_0 l0
  replace s0_1 := keepc hb7 s0_1 l0
  replace s0_2 := keepc hb7 s0_2 l0
  replace s0_3 := keepc hb7 s0_3 l0
  replace s0_4 := keepc hb7 s0_4 l0
  replace t0_0 := keepc hb7 t0_0 l100
  replace t0_1 := keepc hb7 t0_1 l100
  replace rz := rz.to hb7
  replace l0 := Nat.lt_of_lt_of_le l0 hb7.size
  replace l1 := Nat.lt_of_lt_of_le l1 hb7.size
  replace l100 := Nat.lt_of_lt_of_le l100 hb7.size
  replace hx1 := hx1.to hb7
  replace hx2 := hx2.to hb7
  replace hx3 := hx3.to hb7
  replace i1 := i1.to hb7
  replace i2 := i2.to hb7
  replace i3 := i3.to hb7
  replace i4 := i4.to hb7
  replace hv0 := hv0.to hb7
  replace HW := Lib.hid (hstep HW hb7)
  clear hb7
  cases b
  case false =>
    obtain ⟨_, _, ⟨r0, r1, r2, r3, r4⟩, f0, f1, f2, f3, f4⟩ := rz
    go_wp2_with fail
    refine bodyPost_ret (v := .tuple #[.agg #[.bool false, .slice none 0 0, .bool false, .slice none 0 0, .slice none 0 0], .bool false]) (by simp [results, Tryz.results71, go_sem, r0, r1, r2, r3, r4, f0, f1, f2, f3, f4]) rfl ⟨false, Cx.zero, F2.out (by simp) (by simp), sz_int0.mono (by omega), ?_⟩
    obtain ⟨e1, e2, e3⟩ := zero_form
    have h := retNumB_fin (b := false) (q := Cx.zero) (A1 := none) (A2 := none) (A3 := none) HW ⟨by rw [e1]; exact fun e => absurd rfl e, by rw [e2]; exact fun e => absurd rfl e, by rw [e3]; exact fun e => absurd rfl e⟩ (by omega) r0
    rw [e1, e2, e3, sn_zero, show ab 0 = 0 from rfl, ln_zero] at h
    exact h
  case true =>
  obtain ⟨hn, hlaw⟩ := F3.out (by simp) (by simp)
  have zE : Hid (sz 30000000 E) := Lib.hid (by rw [← HE.out]; exact sz.mono (sz_div (K := 7000000) (by omega) (sz.mono zI.out (by omega)) zQ2.out hn) (by omega))
  have zM : Hid (sz 100000000 (E.mul i)) := Lib.hid (sz.mono (sz_mul zE.out (by rw [HI.out]; exact sz.mono iu_sz (by omega))) (by omega))
  have ZO : Hid (sz 300000000 (Q.add (E.mul i))) := Lib.hid (sz.mono (sz_add (sz.mono zQ.out (by omega)) zM.out) (by omega))
  have HN := Lib.hid hn
  have HLW := Lib.hid hlaw
  clear hn hlaw
  go_upto_region 13 with fail
  go_cut [10, 11] (fun p ev wx => VarNum w7 (E) p wx ∧ ev = .int .i64 0 ∧ FrozN wx p)
  case first =>
    have gB : Hid (Below w7.heap.size w7 w7) := Lib.hid (Below.refl _ _)
    go_region_held3 (fun w' => w'.cell? ⟨w.heap.size, 0, none⟩ = some (.bool (sn (na x))) ∧ w'.cell? ⟨w.heap.size, 1, none⟩ = some (.slice A1 (ln (ab (na x))) (ln (ab (na x)))) ∧ w'.cell? ⟨w.heap.size, 2, none⟩ = some (.bool (sn (nb x))) ∧ w'.cell? ⟨w.heap.size, 3, none⟩ = some (.slice A2 (ln (ab (nb x))) (ln (ab (nb x)))) ∧ w'.cell? ⟨w.heap.size, 4, none⟩ = some (.slice A3 (ln (un x)) (ln (un x))) ∧ w'.cell? ⟨g1, 0, none⟩ = some (.bool (sn (na (Q)))) ∧ w'.cell? ⟨g1, 1, none⟩ = some (.slice V11 (ln (ab (na (Q)))) (ln (ab (na (Q))))) ∧ w'.cell? ⟨g1, 2, none⟩ = some (.bool (sn (nb (Q)))) ∧ w'.cell? ⟨g1, 3, none⟩ = some (.slice V12 (ln (ab (nb (Q)))) (ln (ab (nb (Q))))) ∧ w'.cell? ⟨g1, 4, none⟩ = some (.slice V13 (ln (un (Q))) (ln (un (Q))))) (first | with_reducible exact ⟨s0_0, s0_1, s0_2, s0_3, s0_4, t1_0, t1_1, t1_2, t1_3, t1_4⟩ | with_reducible exact ⟨(keepa s0_0 l0), (keepa s0_1 l0), (keepa s0_2 l0), (keepa s0_3 l0), (keepa s0_4 l0), (keepa t1_0 l101), (keepa t1_1 l101), (keepa t1_2 l101), (keepa t1_3 l101), (keepa t1_4 l101)⟩ | with_reducible exact ⟨(keepa (keepa s0_0 l0) (lta l0)), (keepa (keepa s0_1 l0) (lta l0)), (keepa (keepa s0_2 l0) (lta l0)), (keepa (keepa s0_3 l0) (lta l0)), (keepa (keepa s0_4 l0) (lta l0)), (keepa (keepa t1_0 l101) (lta l101)), (keepa (keepa t1_1 l101) (lta l101)), (keepa (keepa t1_2 l101) (lta l101)), (keepa (keepa t1_3 l101) (lta l101)), (keepa (keepa t1_4 l101) (lta l101))⟩ | with_reducible exact ⟨(keepd s0_0), (keepd s0_1), (keepd s0_2), (keepd s0_3), (keepd s0_4), (keepd t1_0), (keepd t1_1), (keepd t1_2), (keepd t1_3), (keepd t1_4)⟩ | with_reducible exact ⟨(keepd (keepa s0_0 l0)), (keepd (keepa s0_1 l0)), (keepd (keepa s0_2 l0)), (keepd (keepa s0_3 l0)), (keepd (keepa s0_4 l0)), (keepd (keepa t1_0 l101)), (keepd (keepa t1_1 l101)), (keepd (keepa t1_2 l101)), (keepd (keepa t1_3 l101)), (keepd (keepa t1_4 l101))⟩ | with_reducible exact ⟨(keepd (keepa (keepa s0_0 l0) (lta l0))), (keepd (keepa (keepa s0_1 l0) (lta l0))), (keepd (keepa (keepa s0_2 l0) (lta l0))), (keepd (keepa (keepa s0_3 l0) (lta l0))), (keepd (keepa (keepa s0_4 l0) (lta l0))), (keepd (keepa (keepa t1_0 l101) (lta l101))), (keepd (keepa (keepa t1_1 l101) (lta l101))), (keepd (keepa (keepa t1_2 l101) (lta l101))), (keepd (keepa (keepa t1_3 l101) (lta l101))), (keepd (keepa (keepa t1_4 l101) (lta l101)))⟩ | (have _ := gx; with_reducible exact ⟨(keeps (keeps (keeps (keeps (keeps s0_0 gn0) gn0) gn0) gn0) gn0), (keeps (keeps (keeps (keeps (keeps s0_1 gn0) gn0) gn0) gn0) gn0), (keeps (keeps (keeps (keeps (keeps s0_2 gn0) gn0) gn0) gn0) gn0), (keeps (keeps (keeps (keeps (keeps s0_3 gn0) gn0) gn0) gn0) gn0), (keeps (keeps (keeps (keeps (keeps s0_4 gn0) gn0) gn0) gn0) gn0), (keeps (keeps (keeps (keeps (keeps t1_0 gn101) gn101) gn101) gn101) gn101), (keeps (keeps (keeps (keeps (keeps t1_1 gn101) gn101) gn101) gn101) gn101), (keeps (keeps (keeps (keeps (keeps t1_2 gn101) gn101) gn101) gn101) gn101), (keeps (keeps (keeps (keeps (keeps t1_3 gn101) gn101) gn101) gn101) gn101), (keeps (keeps (keeps (keeps (keeps t1_4 gn101) gn101) gn101) gn101) gn101)⟩)) (first
      | (go_at_call 41; refine (im_num x A1 A2 A3 _ (by first | with_reducible exact num3_mk hx1 hx2 hx3 | with_reducible exact num3_alloc (num3_mk hx1 hx2 hx3) | exact num3_mk hx1 hx2 hx3 | exact num3_alloc (num3_mk hx1 hx2 hx3)) (sz.mono HSX.out (by omega))).mono ?_; rintro e w8 ⟨I1, I2, I3, rfl, im, ha⟩; have hb8 : Below w7.heap.size w7 w8 := (by first | with_reducible exact ha | with_reducible exact undrew ha | with_reducible exact unalloc ha | with_reducible exact undrewalloc ha | with_reducible exact undrew (unalloc ha)); (try replace gx := gx.to hb8); (try ((first | (with_reducible have gx := newvarN ha) | (with_reducible have gx := newvarN (undrew ha)) | (with_reducible have gx := newvarN (unalloc ha)) | (with_reducible have gx := newvarN (undrewalloc ha))); have gn0 := Nat.ne_of_lt (Nat.lt_of_lt_of_le l0 gx.1); have gn1 := Nat.ne_of_lt (Nat.lt_of_lt_of_le l1 gx.1); have gn100 := Nat.ne_of_lt (Nat.lt_of_lt_of_le l100 gx.1); have gn101 := Nat.ne_of_lt (Nat.lt_of_lt_of_le l101 gx.1); have gge := Nat.le_trans gB.out.size gx.1)); replace gB := Lib.hid (onto gB.out hb8); replace s0_0 := keepc hb8 s0_0 l0; replace s0_1 := keepc hb8 s0_1 l0; replace s0_2 := keepc hb8 s0_2 l0; replace s0_3 := keepc hb8 s0_3 l0; replace s0_4 := keepc hb8 s0_4 l0; replace t0_0 := keepc hb8 t0_0 l100; replace t0_1 := keepc hb8 t0_1 l100; replace t1_0 := keepc hb8 t1_0 l101; replace t1_1 := keepc hb8 t1_1 l101; replace t1_2 := keepc hb8 t1_2 l101; replace t1_3 := keepc hb8 t1_3 l101; replace t1_4 := keepc hb8 t1_4 l101; replace rz := rz.to hb8; replace l0 := Nat.lt_of_lt_of_le l0 hb8.size; replace l1 := Nat.lt_of_lt_of_le l1 hb8.size; replace l100 := Nat.lt_of_lt_of_le l100 hb8.size; replace l101 := Nat.lt_of_lt_of_le l101 hb8.size; replace hx1 := hx1.to hb8; replace hx2 := hx2.to hb8; replace hx3 := hx3.to hb8; replace i1 := i1.to hb8; replace i2 := i2.to hb8; replace i3 := i3.to hb8; replace i4 := i4.to hb8; replace hv0 := hv0.to hb8; replace hv11 := hv11.to hb8; replace hv12 := hv12.to hb8; replace hv13 := hv13.to hb8; replace HW := Lib.hid (hstep HW hb8); clear hb8; clear ha)
      | (go_at_call 26; refine (add_e Q2 Q Q HQ2.out V11 V12 V13 V11 V12 V13 _ (by first | with_reducible exact num3_mk hv11 hv12 hv13 | with_reducible exact num3_alloc (num3_mk hv11 hv12 hv13) | exact num3_mk hv11 hv12 hv13 | exact num3_alloc (num3_mk hv11 hv12 hv13)) (by first | with_reducible exact num3_mk hv11 hv12 hv13 | with_reducible exact num3_alloc (num3_mk hv11 hv12 hv13) | exact num3_mk hv11 hv12 hv13 | exact num3_alloc (num3_mk hv11 hv12 hv13)) (sz.mono zQ.out (by omega)) (sz.mono zQ.out (by omega))).mono ?_; rintro e w9 ⟨U1, U2, U3, rfl, um, ha⟩; have hb9 : Below w8.heap.size w8 w9 := (by first | with_reducible exact ha | with_reducible exact undrew ha | with_reducible exact unalloc ha | with_reducible exact undrewalloc ha | with_reducible exact undrew (unalloc ha)); (try replace gx := gx.to hb9); (try ((first | (with_reducible have gx := newvarN ha) | (with_reducible have gx := newvarN (undrew ha)) | (with_reducible have gx := newvarN (unalloc ha)) | (with_reducible have gx := newvarN (undrewalloc ha))); have gn0 := Nat.ne_of_lt (Nat.lt_of_lt_of_le l0 gx.1); have gn1 := Nat.ne_of_lt (Nat.lt_of_lt_of_le l1 gx.1); have gn100 := Nat.ne_of_lt (Nat.lt_of_lt_of_le l100 gx.1); have gn101 := Nat.ne_of_lt (Nat.lt_of_lt_of_le l101 gx.1); have gge := Nat.le_trans gB.out.size gx.1)); replace gB := Lib.hid (onto gB.out hb9); replace s0_0 := keepc hb9 s0_0 l0; replace s0_1 := keepc hb9 s0_1 l0; replace s0_2 := keepc hb9 s0_2 l0; replace s0_3 := keepc hb9 s0_3 l0; replace s0_4 := keepc hb9 s0_4 l0; replace t0_0 := keepc hb9 t0_0 l100; replace t0_1 := keepc hb9 t0_1 l100; replace t1_0 := keepc hb9 t1_0 l101; replace t1_1 := keepc hb9 t1_1 l101; replace t1_2 := keepc hb9 t1_2 l101; replace t1_3 := keepc hb9 t1_3 l101; replace t1_4 := keepc hb9 t1_4 l101; replace rz := rz.to hb9; replace l0 := Nat.lt_of_lt_of_le l0 hb9.size; replace l1 := Nat.lt_of_lt_of_le l1 hb9.size; replace l100 := Nat.lt_of_lt_of_le l100 hb9.size; replace l101 := Nat.lt_of_lt_of_le l101 hb9.size; replace hx1 := hx1.to hb9; replace hx2 := hx2.to hb9; replace hx3 := hx3.to hb9; replace i1 := i1.to hb9; replace i2 := i2.to hb9; replace i3 := i3.to hb9; replace i4 := i4.to hb9; replace hv0 := hv0.to hb9; replace hv11 := hv11.to hb9; replace hv12 := hv12.to hb9; replace hv13 := hv13.to hb9; replace im := im.to hb9; replace HW := Lib.hid (hstep HW hb9); clear hb9; clear ha)
      | (go_at_call 32; refine (div_e E x.imOf Q2 HE.out I1 I2 I3 U1 U2 U3 _ (by first | with_reducible exact im | with_reducible exact num3_alloc im | exact im | exact num3_alloc im) (by first | with_reducible exact um | with_reducible exact num3_alloc um | exact um | exact num3_alloc um) (sz.mono zI.out (by omega)) (sz.mono zQ2.out (by omega)) HN.out).mono ?_; rintro e w10 ⟨Z1, Z2, Z3, rfl, z10, ha⟩; have hb10 : Below w9.heap.size w9 w10 := (by first | with_reducible exact ha | with_reducible exact undrew ha | with_reducible exact unalloc ha | with_reducible exact undrewalloc ha | with_reducible exact undrew (unalloc ha)); (try replace gx := gx.to hb10); (try ((first | (with_reducible have gx := newvarN ha) | (with_reducible have gx := newvarN (undrew ha)) | (with_reducible have gx := newvarN (unalloc ha)) | (with_reducible have gx := newvarN (undrewalloc ha))); have gn0 := Nat.ne_of_lt (Nat.lt_of_lt_of_le l0 gx.1); have gn1 := Nat.ne_of_lt (Nat.lt_of_lt_of_le l1 gx.1); have gn100 := Nat.ne_of_lt (Nat.lt_of_lt_of_le l100 gx.1); have gn101 := Nat.ne_of_lt (Nat.lt_of_lt_of_le l101 gx.1); have gge := Nat.le_trans gB.out.size gx.1)); replace gB := Lib.hid (onto gB.out hb10); replace s0_0 := keepc hb10 s0_0 l0; replace s0_1 := keepc hb10 s0_1 l0; replace s0_2 := keepc hb10 s0_2 l0; replace s0_3 := keepc hb10 s0_3 l0; replace s0_4 := keepc hb10 s0_4 l0; replace t0_0 := keepc hb10 t0_0 l100; replace t0_1 := keepc hb10 t0_1 l100; replace t1_0 := keepc hb10 t1_0 l101; replace t1_1 := keepc hb10 t1_1 l101; replace t1_2 := keepc hb10 t1_2 l101; replace t1_3 := keepc hb10 t1_3 l101; replace t1_4 := keepc hb10 t1_4 l101; replace rz := rz.to hb10; replace l0 := Nat.lt_of_lt_of_le l0 hb10.size; replace l1 := Nat.lt_of_lt_of_le l1 hb10.size; replace l100 := Nat.lt_of_lt_of_le l100 hb10.size; replace l101 := Nat.lt_of_lt_of_le l101 hb10.size; replace hx1 := hx1.to hb10; replace hx2 := hx2.to hb10; replace hx3 := hx3.to hb10; replace i1 := i1.to hb10; replace i2 := i2.to hb10; replace i3 := i3.to hb10; replace i4 := i4.to hb10; replace hv0 := hv0.to hb10; replace hv11 := hv11.to hb10; replace hv12 := hv12.to hb10; replace hv13 := hv13.to hb10; replace im := im.to hb10; replace um := um.to hb10; replace HW := Lib.hid (hstep HW hb10); clear hb10; clear ha; (try (have gy := gx; obtain ⟨_, gl, ⟨gc0, gc1, gc2, gc3, gc4⟩, gf0, gf1, gf2, gf3, gf4⟩ := gy))))
    all_goals
      go_wp2_with fail
      go_meet
      first | with_reducible exact ⟨varNum_set gB.out gx gge z10, rfl, frozN_set gx⟩ | with_reducible exact ⟨varNum_new gB.out z10, rfl, frozN_new _ _ _⟩
  case rest =>
  obtain ⟨⟨g2, V21, V22, V23, hp2, ⟨t2_0, t2_1, t2_2, t2_3, t2_4⟩, hv2, hg2, l102, hb8⟩, hev, hfz⟩ := hcut
  obtain ⟨hv21, hv22, hv23⟩ := hv2
  subst hp2 hev
  replace hfz := hfz _ rfl
  have n102 : g2 ≠ w.heap.size + 1 := by omega
  have m102 : w.heap.size ≤ g2 := by omega
  obtain ⟨w8, rfl⟩ : ∃ X : World, X = wc := ⟨_, rfl⟩
  replace s0_0 := keepc hb8 s0_0 l0
  replace s0_1 := keepc hb8 s0_1 l0
  replace s0_2 := keepc hb8 s0_2 l0
  replace s0_3 := keepc hb8 s0_3 l0
  replace s0_4 := keepc hb8 s0_4 l0
  replace t0_0 := keepc hb8 t0_0 l100
  replace t0_1 := keepc hb8 t0_1 l100
  replace t1_0 := keepc hb8 t1_0 l101
  replace t1_1 := keepc hb8 t1_1 l101
  replace t1_2 := keepc hb8 t1_2 l101
  replace t1_3 := keepc hb8 t1_3 l101
  replace t1_4 := keepc hb8 t1_4 l101
  replace rz := rz.to hb8
  replace l0 := Nat.lt_of_lt_of_le l0 hb8.size
  replace l1 := Nat.lt_of_lt_of_le l1 hb8.size
  replace l100 := Nat.lt_of_lt_of_le l100 hb8.size
  replace l101 := Nat.lt_of_lt_of_le l101 hb8.size
  replace hx1 := hx1.to hb8
  replace hx2 := hx2.to hb8
  replace hx3 := hx3.to hb8
  replace i1 := i1.to hb8
  replace i2 := i2.to hb8
  replace i3 := i3.to hb8
  replace i4 := i4.to hb8
  replace hv0 := hv0.to hb8
  replace hv11 := hv11.to hb8
  replace hv12 := hv12.to hb8
  replace hv13 := hv13.to hb8
  replace HW := Lib.hid (hstep HW hb8)
  clear hb8
  go_wp2_with fail
  go_region_held3 (fun w' => w'.cell? ⟨g1, 0, none⟩ = some (.bool (sn (na (Q)))) ∧ w'.cell? ⟨g1, 1, none⟩ = some (.slice V11 (ln (ab (na (Q)))) (ln (ab (na (Q))))) ∧ w'.cell? ⟨g1, 2, none⟩ = some (.bool (sn (nb (Q)))) ∧ w'.cell? ⟨g1, 3, none⟩ = some (.slice V12 (ln (ab (nb (Q)))) (ln (ab (nb (Q))))) ∧ w'.cell? ⟨g1, 4, none⟩ = some (.slice V13 (ln (un (Q))) (ln (un (Q)))) ∧ w'.cell? ⟨g2, 0, none⟩ = some (.bool (sn (na (E)))) ∧ w'.cell? ⟨g2, 1, none⟩ = some (.slice V21 (ln (ab (na (E)))) (ln (ab (na (E))))) ∧ w'.cell? ⟨g2, 2, none⟩ = some (.bool (sn (nb (E)))) ∧ w'.cell? ⟨g2, 3, none⟩ = some (.slice V22 (ln (ab (nb (E)))) (ln (ab (nb (E))))) ∧ w'.cell? ⟨g2, 4, none⟩ = some (.slice V23 (ln (un (E))) (ln (un (E))))) (first | with_reducible exact ⟨t1_0, t1_1, t1_2, t1_3, t1_4, t2_0, t2_1, t2_2, t2_3, t2_4⟩ | with_reducible exact ⟨(keeps (keeps (keeps (keeps (keeps t1_0 n101) n101) n101) n101) n101), (keeps (keeps (keeps (keeps (keeps t1_1 n101) n101) n101) n101) n101), (keeps (keeps (keeps (keeps (keeps t1_2 n101) n101) n101) n101) n101), (keeps (keeps (keeps (keeps (keeps t1_3 n101) n101) n101) n101) n101), (keeps (keeps (keeps (keeps (keeps t1_4 n101) n101) n101) n101) n101), (keeps (keeps (keeps (keeps (keeps t2_0 n102) n102) n102) n102) n102), (keeps (keeps (keeps (keeps (keeps t2_1 n102) n102) n102) n102) n102), (keeps (keeps (keeps (keeps (keeps t2_2 n102) n102) n102) n102) n102), (keeps (keeps (keeps (keeps (keeps t2_3 n102) n102) n102) n102) n102), (keeps (keeps (keeps (keeps (keeps t2_4 n102) n102) n102) n102) n102)⟩ | exact ⟨t1_0, t1_1, t1_2, t1_3, t1_4, t2_0, t2_1, t2_2, t2_3, t2_4⟩) (first
    | (have _ := mk1; go_at_call 26; refine (add_num Q (E.mul i) V11 V12 V13 X1 X2 X3 _ (by exact num3_mk hv11 hv12 hv13) (by exact xm) (sz.mono zQ.out (by omega)) (sz.mono zM.out (by omega))).mono ?_; rintro e w11 ⟨Y1, Y2, Y3, rfl, ym, hb11⟩; replace s0_0 := keepc hb11 s0_0 l0; replace s0_1 := keepc hb11 s0_1 l0; replace s0_2 := keepc hb11 s0_2 l0; replace s0_3 := keepc hb11 s0_3 l0; replace s0_4 := keepc hb11 s0_4 l0; replace t0_0 := keepc hb11 t0_0 l100; replace t0_1 := keepc hb11 t0_1 l100; replace t1_0 := keepc hb11 t1_0 l101; replace t1_1 := keepc hb11 t1_1 l101; replace t1_2 := keepc hb11 t1_2 l101; replace t1_3 := keepc hb11 t1_3 l101; replace t1_4 := keepc hb11 t1_4 l101; replace t2_0 := keepc hb11 t2_0 l102; replace t2_1 := keepc hb11 t2_1 l102; replace t2_2 := keepc hb11 t2_2 l102; replace t2_3 := keepc hb11 t2_3 l102; replace t2_4 := keepc hb11 t2_4 l102; replace rz := rz.to hb11; replace l0 := Nat.lt_of_lt_of_le l0 hb11.size; replace l1 := Nat.lt_of_lt_of_le l1 hb11.size; replace l100 := Nat.lt_of_lt_of_le l100 hb11.size; replace l101 := Nat.lt_of_lt_of_le l101 hb11.size; replace l102 := Nat.lt_of_lt_of_le l102 hb11.size; replace hx1 := hx1.to hb11; replace hx2 := hx2.to hb11; replace hx3 := hx3.to hb11; replace i1 := i1.to hb11; replace i2 := i2.to hb11; replace i3 := i3.to hb11; replace i4 := i4.to hb11; replace hv0 := hv0.to hb11; replace hv11 := hv11.to hb11; replace hv12 := hv12.to hb11; replace hv13 := hv13.to hb11; replace hv21 := hv21.to hb11; replace hv22 := hv22.to hb11; replace hv23 := hv23.to hb11; replace o1 := o1.to hb11; replace xm := xm.to hb11; replace HW := Lib.hid (hstep HW hb11); clear hb11; obtain ⟨_, _, ⟨r0, r1, r2, r3, r4⟩, f0, f1, f2, f3, f4⟩ := rz; have mk2 : True := trivial)
    | (have _ := mk0; go_at_call 30; refine (mul_iu E i z HZ.out HI.out V21 V22 V23 O1 _ (by exact num3_mk hv21 hv22 hv23) (by exact o1) (sz.mono zE.out (by omega))).mono ?_; rintro e w10 ⟨X1, X2, X3, rfl, xm, hb10⟩; replace s0_0 := keepc hb10 s0_0 l0; replace s0_1 := keepc hb10 s0_1 l0; replace s0_2 := keepc hb10 s0_2 l0; replace s0_3 := keepc hb10 s0_3 l0; replace s0_4 := keepc hb10 s0_4 l0; replace t0_0 := keepc hb10 t0_0 l100; replace t0_1 := keepc hb10 t0_1 l100; replace t1_0 := keepc hb10 t1_0 l101; replace t1_1 := keepc hb10 t1_1 l101; replace t1_2 := keepc hb10 t1_2 l101; replace t1_3 := keepc hb10 t1_3 l101; replace t1_4 := keepc hb10 t1_4 l101; replace t2_0 := keepc hb10 t2_0 l102; replace t2_1 := keepc hb10 t2_1 l102; replace t2_2 := keepc hb10 t2_2 l102; replace t2_3 := keepc hb10 t2_3 l102; replace t2_4 := keepc hb10 t2_4 l102; replace rz := rz.to hb10; replace l0 := Nat.lt_of_lt_of_le l0 hb10.size; replace l1 := Nat.lt_of_lt_of_le l1 hb10.size; replace l100 := Nat.lt_of_lt_of_le l100 hb10.size; replace l101 := Nat.lt_of_lt_of_le l101 hb10.size; replace l102 := Nat.lt_of_lt_of_le l102 hb10.size; replace hx1 := hx1.to hb10; replace hx2 := hx2.to hb10; replace hx3 := hx3.to hb10; replace i1 := i1.to hb10; replace i2 := i2.to hb10; replace i3 := i3.to hb10; replace i4 := i4.to hb10; replace hv0 := hv0.to hb10; replace hv11 := hv11.to hb10; replace hv12 := hv12.to hb10; replace hv13 := hv13.to hb10; replace hv21 := hv21.to hb10; replace hv22 := hv22.to hb10; replace hv23 := hv23.to hb10; replace o1 := o1.to hb10; replace HW := Lib.hid (hstep HW hb10); clear hb10; have mk1 : True := trivial)
    | (go_at_call 120; refine (of64_one z HZ.out _).mono ?_; rintro e w9 ⟨O1, rfl, o1, hb9⟩; have hb9 := undrew hb9; replace s0_0 := keepc hb9 s0_0 l0; replace s0_1 := keepc hb9 s0_1 l0; replace s0_2 := keepc hb9 s0_2 l0; replace s0_3 := keepc hb9 s0_3 l0; replace s0_4 := keepc hb9 s0_4 l0; replace t0_0 := keepc hb9 t0_0 l100; replace t0_1 := keepc hb9 t0_1 l100; replace t1_0 := keepc hb9 t1_0 l101; replace t1_1 := keepc hb9 t1_1 l101; replace t1_2 := keepc hb9 t1_2 l101; replace t1_3 := keepc hb9 t1_3 l101; replace t1_4 := keepc hb9 t1_4 l101; replace t2_0 := keepc hb9 t2_0 l102; replace t2_1 := keepc hb9 t2_1 l102; replace t2_2 := keepc hb9 t2_2 l102; replace t2_3 := keepc hb9 t2_3 l102; replace t2_4 := keepc hb9 t2_4 l102; replace rz := rz.to hb9; replace l0 := Nat.lt_of_lt_of_le l0 hb9.size; replace l1 := Nat.lt_of_lt_of_le l1 hb9.size; replace l100 := Nat.lt_of_lt_of_le l100 hb9.size; replace l101 := Nat.lt_of_lt_of_le l101 hb9.size; replace l102 := Nat.lt_of_lt_of_le l102 hb9.size; replace hx1 := hx1.to hb9; replace hx2 := hx2.to hb9; replace hx3 := hx3.to hb9; replace i1 := i1.to hb9; replace i2 := i2.to hb9; replace i3 := i3.to hb9; replace i4 := i4.to hb9; replace hv0 := hv0.to hb9; replace hv11 := hv11.to hb9; replace hv12 := hv12.to hb9; replace hv13 := hv13.to hb9; replace hv21 := hv21.to hb9; replace hv22 := hv22.to hb9; replace hv23 := hv23.to hb9; replace HW := Lib.hid (hstep HW hb9); clear hb9; have mk0 : True := trivial))
  go_wp2_with fail
  exact bodyPost_ret (v := .tuple #[.agg #[.bool (sn (na (Q.add (E.mul i)))), .slice Y1 (ln (ab (na (Q.add (E.mul i))))) (ln (ab (na (Q.add (E.mul i))))), .bool (sn (nb (Q.add (E.mul i)))), .slice Y2 (ln (ab (nb (Q.add (E.mul i))))) (ln (ab (nb (Q.add (E.mul i))))), .slice Y3 (ln (un (Q.add (E.mul i)))) (ln (un (Q.add (E.mul i))))], .bool true]) (by simp [results, Tryz.results71, go_sem, r0, r1, r2, r3, r4, f0, f1, f2, f3, f4]) rfl ⟨true, _, HLW.out, ZO.out, retNumB_fin HW ym (by omega) r0⟩

end Go.Proofs.YtgpmlhpgdalheaaGreat
