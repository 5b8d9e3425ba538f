/- 'nat.shl': a number times a power of two. Condition: at most 2^45 words, the exponent at most 2^40. -/
import Derived.Test.YtgpmlhpgdalheaaGreatMul
namespace Go.Proofs.YtgpmlhpgdalheaaGreat
open Go.RowKit Pl

/-- The words of x below i, times a power of two. -/
def sp (x q r i : Nat) : Nat := x % 4294967296 ^ i * 2 ^ (32 * q + r)
theorem sp_zero (x q r : Nat) : sp x q r 0 = 0 := by simp [sp, Nat.mod_one]

/-- A word, shifted. -/
def shw (x i r : Nat) : Nat := wd x i * 2 ^ r
theorem pow_r {r : Nat} (hr : r < 32) : 2 ^ r ≤ 2147483648 := Nat.pow_le_pow_right (n := 2) (by omega) (show r ≤ 31 by omega)
theorem shw_lt (x i : Nat) {r : Nat} (hr : r < 32) : shw x i r < 9223372036854775808 := by
  have h1 := wd_lt x i
  have h2 := pow_r hr
  have h3 : wd x i * 2 ^ r ≤ 4294967295 * 2147483648 := Nat.mul_le_mul (by omega) h2
  unfold shw; omega
theorem shw_wrap (x i : Nat) {r : Nat} (hr : r < 32) : IntKind.u64.wrap ((wd x i : Int) * 2 ^ r) = (shw x i r : Nat) := by
  have h := shw_lt x i hr
  have e : (wd x i : Int) * 2 ^ r = (shw x i r : Nat) := by unfold shw; simp
  rw [e, IntKind.wrap_u64]; omega
theorem sp_top (x q i r : Nat) : sp x q r i / 4294967296 ^ (i + q) < 2 ^ r :=
  (Nat.div_lt_iff_lt_mul (pow_pos' _)).2 (by rw [Nat.mul_comm]; exact shl_lt x q r i)
theorem sp_step (x q r i : Nat) : sp x q r (i + 1) = sp x q r i + 4294967296 ^ (i + q) * shw x i r := shl_step x q r i
theorem sp_or (x q i : Nat) {r : Nat} (hr : r < 32) : wd (sp x q r i) (i + q) ||| (shw x i r % 4294967296) = wd (sp x q r (i + 1)) (i + q) ∧ sp x q r i / 4294967296 ^ (i + q) + shw x i r % 4294967296 < 4294967296 := by
  have h1 := sp_top x q i r
  have h2 := pow_r hr
  have hB : 4294967296 = 2 ^ r * 2 ^ (32 - r) := by rw [← Nat.pow_add, show r + (32 - r) = 32 by omega]
  have h3 : wd (sp x q r i) (i + q) = sp x q r i / 4294967296 ^ (i + q) := by rw [wd, Nat.mod_eq_of_lt (by omega)]
  have h4 : shw x i r % 4294967296 % 2 ^ r = 0 := by
    rw [Nat.mod_mod_of_dvd _ ⟨2 ^ (32 - r), hB⟩]
    unfold shw; exact Nat.mul_mod_left _ _
  have h5 : sp x q r i / 4294967296 ^ (i + q) + shw x i r % 4294967296 < 4294967296 := by
    have h6 := Nat.div_add_mod (shw x i r % 4294967296) (2 ^ r)
    have h7 : shw x i r % 4294967296 / 2 ^ r < 2 ^ (32 - r) := (Nat.div_lt_iff_lt_mul (Nat.pow_pos (by omega))).2 (by rw [Nat.mul_comm, ← hB]; omega)
    have h8 : 2 ^ r * (shw x i r % 4294967296 / 2 ^ r + 1) ≤ 2 ^ r * 2 ^ (32 - r) := Nat.mul_le_mul_left _ h7
    rw [← hB, Nat.mul_add] at h8
    omega
  refine ⟨?_, h5⟩
  rw [h3, or_plus h1 h4, sp_step, wd_add_at]
  omega
theorem shl_or (x q i : Nat) {r : Nat} (hr : r < 32) : bits .or .u32 (wd (sp x q r i) (i + q) : Nat) ((shw x i r : Int) % 4294967296) = (wd (sp x q r (i + 1)) (i + q) : Nat) := by
  have e : (shw x i r : Int) % 4294967296 = ((shw x i r % 4294967296 : Nat) : Int) := by omega
  rw [e, u32_or_nat _ _ (wd_lt _ _) (by omega), (sp_or x q i hr).1]
theorem sp_above (x q i : Nat) {r : Nat} (hr : r < 32) : shw x i r / 4294967296 = wd (sp x q r (i + 1)) (i + q + 1) := by
  have h := (sp_or x q i hr).2
  have h1 := shw_lt x i hr
  rw [sp_step, wd, Nat.pow_succ, ← Nat.div_div_eq_div_mul, Nat.add_mul_div_left _ _ (pow_pos' _)]
  generalize sp x q r i / 4294967296 ^ (i + q) = a at *
  omega
theorem sp_low (x q r i j : Nat) (h : j < i + q) : wd (sp x q r (i + 1)) j = wd (sp x q r i) j := by rw [sp_step, wd_add_high _ _ _ _ h]
theorem sp_lt (x q i : Nat) {r : Nat} (hr : r < 32) : sp x q r i < 4294967296 ^ (i + q + 1) := by
  have h := sp_top x q i r
  have h2 := pow_r hr
  rw [Nat.pow_succ]
  have h3 := (Nat.div_lt_iff_lt_mul (pow_pos' (i + q))).1 h
  have h4 : 2 ^ r * 4294967296 ^ (i + q) ≤ 4294967296 * 4294967296 ^ (i + q) := Nat.mul_le_mul_right _ (by omega)
  rw [Nat.mul_comm 4294967296] at h4
  omega
theorem shl_row (x q i j : Nat) {r : Nat} (hr : r < 32) {v u : Value} (hv : v = .int .u32 (wd (sp x q r (i + 1)) (i + q + 1) : Nat)) (hu : u = .int .u32 (wd (sp x q r (i + 1)) (i + q) : Nat)) : (if j = i + q + 1 then v else if j = i + q then u else rowN (sp x q r i) j) = rowN (sp x q r (i + 1)) j := by
  unfold rowN
  by_cases h : j = i + q + 1
  · subst h; rw [if_pos rfl, hv]
  · rw [if_neg h]
    by_cases h2 : j = i + q
    · subst h2; rw [if_pos rfl, hu]
    · rw [if_neg h2]
      by_cases h3 : j < i + q
      · rw [sp_low _ _ _ _ _ h3]
      · rw [wd_top (sp_lt x q i hr) (by omega), wd_top (sp_lt x q (i + 1) hr) (by omega)]

set_option maxHeartbeats 1000000 in
theorem shl_pos (x n q r : Nat) (A : Option Addr) (w : World) (hx : Nat32 w A x) (hbx : ln x ≤ 35184372088832) (hn : n ≤ 1099511627776) (hx0 : x ≠ 0) (hn0 : n ≠ 0) (hnq : n = 32 * q + r) (hr : r < 32) :
    Calls Tryz.prog 114 #[.slice A (ln x) (ln x), .int .i64 (n : Nat)] w (RetNat w (x * 2 ^ n)) := by
  have hmk := mk_nat (ln x + q + 1) (by omega)
  have ec : ((ln x + q + 1 : Nat) : Int) = (ln x : Int) + (q : Int) + 1 := by omega
  rw [ec] at hmk
  clear ec
  have lx := ln_pos hx0
  have t1 : ((ln x : Int) == 0) = false := by simpa using fun e => by omega
  have t2 : ((n : Int) == 0) = false := by simpa using fun e => by omega
  have hq : (n : Int) / 32 = (q : Int) := by omega
  have hr' : (n : Int) % 32 = (r : Int) := by omega
  obtain ⟨b, rfl, hb, hcx⟩ := hx hx0
  have HX := Lib.hid hcx
  have HN := Lib.hid hnq
  clear hcx hnq
  go_enter Tryz.func114, Tryz.ntmps114
  go_wp2_with fail
  have hrow := (World.rowIs_made w (.int .u32 0) (ln x + q + 1) 45).congr (g := rowN (sp x q r 0)) fun j _ => by rw [sp_zero, rowN_zero]
  have hbel := (Below.refl w.heap.size w).alloc (Nat.le_refl _) (.cells (madeCells #[.int .u32 0] (ln x + q + 1)) 45)
  clear hq hr' t1 t2 hmk
  have hqb : q ≤ 1099511627776 := by have := HN.out; omega
  go_loopw [32] (fun i wr => ∃ k : Nat, k ≤ ln x ∧ i = .int .i64 k ∧ wr.rowIs w.heap.size 45 (ln x + q + 1) (rowN (sp x q r k)) ∧ Below w.heap.size w wr) (fun i _ => ln x - (intOf i).toNat)
  case atStart => exact ⟨0, Nat.zero_le _, rfl, hrow, hbel⟩
  case round =>
    obtain ⟨i, hi, rfl, hrowi, hbeli⟩ := hrel
    clear hrow hbel
    by_cases hlt : i < ln x
    · have hxi := (hbeli.cell (p := ⟨b, i, none⟩) hb).trans (HX.out i hlt)
      have b1 := wd_lt x i
      have hst := hrowi.cell (i := i + q) (by omega)
      have hfr := hrowi.frozen (i + q)
      have hst1 := hrowi.cell (i := i + q + 1) (by omega)
      have hfr1 := hrowi.frozen (i + q + 1)
      unfold rowN at hst hst1
      have hw : IntKind.u64.wrap ((wd x i : Int) * 2 ^ r) = (shw x i r : Nat) := shw_wrap x i hr
      have hwb := shw_lt x i hr
      have hor := shl_or x q i hr
      go_wp2
      go_roundw
      case rel => exact ⟨i + 1, by omega, by go_num, ((hrowi.set _ _).set _ _).congr fun j _ => shl_row x q i j hr (int_val (by rw [← sp_above x q i hr]; rfl)) rfl, (hbeli.setCell (by simp) _).setCell (by simp) _⟩
      case measure => simp [intOf]; omega
    · obtain rfl : i = ln x := by omega
      have e : sp x q r (ln x) = x * 2 ^ n := by rw [sp, Nat.mod_eq_of_lt (lt_ln x), HN.out]
      have hN : x * 2 ^ n < 4294967296 ^ (ln x + q + 1) := by rw [← e]; exact sp_lt x q (ln x) hr
      rw [e] at hrowi
      clear e
      go_wp2_with fail
      refine (trim_any _ w.heap.size (ln x + q + 1) (ln x + q + 1) (x * 2 ^ n) (by omega) (by omega) hN fun j hj => hrowi.cell hj).mono ?_
      rintro e w' ⟨rfl, rfl⟩
      go_wp2
      go_ret
      exact ⟨_, rfl, Nat32.ofRow hrowi (ln_le hN) fun j hj => rfl, hbeli⟩

set_option maxHeartbeats 400000 in
/-- 'x.shl(n)'. -/
theorem shl_any (x n : Nat) (A : Option Addr) (w : World) (hx : Nat32 w A x) (hbx : ln x ≤ 35184372088832) (hn : n ≤ 1099511627776) :
    Calls Tryz.prog 114 #[.slice A (ln x) (ln x), .int .i64 (n : Nat)] w (RetNat w (x * 2 ^ n)) := by
  by_cases hx0 : x = 0
  · have h : RetNat w (x * 2 ^ n) (.returned (.slice A (ln x) (ln x))) w := ⟨A, by rw [hx0, Nat.zero_mul], by rw [hx0, Nat.zero_mul]; exact Nat32.zero _ _, Below.refl _ _⟩
    have t1 : ((ln x : Int) == 0) = true := by rw [hx0, ln_zero]; rfl
    have H := Lib.hid h
    clear h hx0
    go_enter Tryz.func114, Tryz.ntmps114
    go_wp2
    go_ret
    exact H.out
  · by_cases hn0 : n = 0
    · have h : RetNat w (x * 2 ^ n) (.returned (.slice A (ln x) (ln x))) w := ⟨A, by rw [hn0, Nat.pow_zero, Nat.mul_one], by rw [hn0, Nat.pow_zero, Nat.mul_one]; exact hx, Below.refl _ _⟩
      have lx := ln_pos hx0
      have t1 : ((ln x : Int) == 0) = false := by simpa using fun e => by omega
      have t2 : ((n : Int) == 0) = true := by rw [hn0]; rfl
      have H := Lib.hid h
      clear h hx0 hn0
      go_enter Tryz.func114, Tryz.ntmps114
      go_wp2
      go_ret
      exact H.out
    · exact shl_pos x n (n / 32) (n % 32) A w hx hbx hn hx0 hn0 (by omega) (by omega)

end Go.Proofs.YtgpmlhpgdalheaaGreat
