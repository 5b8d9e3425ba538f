/- 'nat.shr': a number divided by a power of two, rounded down. Condition: at most 2^45 words, the exponent at most 2^40. -/
import Derived.Test.YtgpmlhpgdalheaaGreatShl
namespace Go.Proofs.YtgpmlhpgdalheaaGreat
open Go.RowKit Pl

/-- Two words, one above the other. -/
def tw (x i : Nat) : Nat := wd x i + 4294967296 * wd x (i + 1)
theorem tw_or (x i : Nat) : bits .or .u64 (wd x i : Nat) ((wd x (i + 1) : Int) * 4294967296) = (tw x i : Nat) := by
  have h1 := wd_lt x i
  have h2 := wd_lt x (i + 1)
  have e : (wd x (i + 1) : Int) * 4294967296 = ((4294967296 * wd x (i + 1) : Nat) : Int) := by omega
  rw [e, u64_or_nat _ _ (by omega) (by omega)]
  unfold tw
  rw [or_plus (r := 32) (by simpa using h1) (by simp)]
theorem tw_top {x i : Nat} (h : ln x ≤ i + 1) : tw x i = wd x i := by unfold tw; rw [wd_high h]; omega
theorem shr_wd (x q r n i : Nat) (hn : n = 32 * q + r) (hr : r < 32) : wd (x / 2 ^ n) i = tw x (i + q) / 2 ^ r % 4294967296 := by
  rw [hn, shr_word x q r i hr, tw]
theorem tw_lt (x i : Nat) : tw x i < 18446744073709551616 := by have h1 := wd_lt x i; have h2 := wd_lt x (i + 1); unfold tw; omega
theorem shr_lt {x q r n : Nat} (hn : n = 32 * q + r) (h : q ≤ ln x) : x / 2 ^ n < 4294967296 ^ (ln x - q) := by
  rw [Nat.div_lt_iff_lt_mul (Nat.pow_pos (by omega)), hn, Nat.pow_add, Nat.pow_mul]
  have h1 := lt_ln x
  have h2 : (4294967296 : Nat) ^ ln x = 4294967296 ^ (ln x - q) * (2 ^ 32) ^ q := by rw [show (2 ^ 32 : Nat) = 4294967296 by decide, ← Nat.pow_add]; congr 1; omega
  rw [h2] at h1
  have h3 : 4294967296 ^ (ln x - q) * (2 ^ 32) ^ q * 1 ≤ 4294967296 ^ (ln x - q) * (2 ^ 32) ^ q * 2 ^ r := Nat.mul_le_mul_left _ (Nat.pow_pos (by omega))
  rw [← Nat.mul_assoc]; omega
theorem shr_all {x q r n : Nat} (hn : n = 32 * q + r) (h : ln x ≤ q) : x / 2 ^ n = 0 := by
  apply Nat.div_eq_of_lt
  have h1 := lt_of_ln h
  rw [hn, Nat.pow_add, Nat.pow_mul, show (2 ^ 32 : Nat) = 4294967296 by decide]
  have h3 : 4294967296 ^ q * 1 ≤ 4294967296 ^ q * 2 ^ r := Nat.mul_le_mul_left _ (Nat.pow_pos (by omega))
  omega

theorem shr_val {x q r n i : Nat} (hn : n = 32 * q + r) (hr : r < 32) : (tw x (i + q) : Int) / 2 ^ r % 4294967296 = (wd (x / 2 ^ n) i : Nat) := by
  rw [shr_wd x q r n i hn hr]
  simp

set_option maxHeartbeats 1000000 in
theorem shr_pos (x n q r : Nat) (A : Option Addr) (w : World) (hx : Nat32 w A x) (hbx : ln x ≤ 35184372088832) (hn : n ≤ 1099511627776) (hnq : n = 32 * q + r) (hr : r < 32) (hql : q < ln x) :
    Calls Tryz.prog 191 #[.slice A (ln x) (ln x), .int .i64 (n : Nat)] w (RetNat w (x / 2 ^ n)) := by
  have hx0 : x ≠ 0 := fun e => by rw [e, ln_zero] at hql; omega
  have hmk := mk_nat (ln x - q) (by omega)
  have ec : ((ln x - q : Nat) : Int) = (ln x : Int) - (q : Int) := by omega
  rw [ec] at hmk
  have hN : x / 2 ^ n < 4294967296 ^ (ln x - q) := shr_lt hnq (by omega)
  have hq : (n : Int) / 32 = (q : Int) := by omega
  have hr' : (n : Int) % 32 = (r : Int) := by omega
  have ht : decide (ln x ≤ q) = false := by simpa using hql
  obtain ⟨b, rfl, hb, hcx⟩ := hx hx0
  have HX := Lib.hid hcx
  have HN := Lib.hid hnq
  have EC := Lib.hid ec
  clear hcx hnq ec
  go_enter Tryz.func191, Tryz.ntmps191
  go_wp2_with fail
  have hrow := (World.rowIs_made w (.int .u32 0) (ln x - q) 45).congr (g := part (x / 2 ^ n) 0) fun j _ => (part_zero _ _).symm
  have hbel := (Below.refl w.heap.size w).alloc (Nat.le_refl _) (.cells (madeCells #[.int .u32 0] (ln x - q)) 45)
  clear hq hr' hmk
  have hqb : q ≤ 1099511627776 := by have := HN.out; omega
  go_loopw [26] (fun i wr => ∃ k : Nat, k ≤ ln x - q ∧ i = .int .i64 k ∧ wr.rowIs w.heap.size 45 (ln x - q) (part (x / 2 ^ n) k) ∧ Below w.heap.size w wr) (fun i _ => ln x - q - (intOf i).toNat)
  case atStart => exact ⟨0, Nat.zero_le _, rfl, hrow, hbel⟩
  case round =>
    obtain ⟨k, hk, rfl, hrowk, hbelk⟩ := hrel
    clear hrow hbel
    by_cases hlt : k < ln x - q
    · have hxk := (hbelk.cell (p := ⟨b, k + q, none⟩) hb).trans (HX.out (k + q) (by omega))
      have hst := hrowk.cell (i := k) (by omega)
      have hfr := hrowk.frozen k
      have b1 := wd_lt x (k + q)
      by_cases hly : k + q + 1 < ln x
      · have hxk1 := (hbelk.cell (p := ⟨b, k + q + 1, none⟩) hb).trans (HX.out (k + q + 1) (by omega))
        have b2 := wd_lt x (k + q + 1)
        have hor := tw_or x (k + q)
        have b3 := tw_lt x (k + q)
        go_wp2
        go_roundw
        case rel => exact ⟨k + 1, by omega, by go_num, (hrowk.set _ _).congr fun j _ => part_step _ _ _ _ (int_val (shr_val HN.out hr)), hbelk.setCell (by simp) _⟩
        case measure => simp [intOf]; omega
      · have HT := Lib.hid (tw_top (x := x) (i := k + q) (by omega))
        go_wp2
        go_roundw
        case rel => exact ⟨k + 1, by omega, by go_num, (hrowk.set _ _).congr fun j _ => part_step _ _ _ _ (int_val (by rw [← shr_val HN.out hr, HT.out])), hbelk.setCell (by simp) _⟩
        case measure => simp [intOf]; omega
    · have HE := Lib.hid (show k = ln x - q by omega)
      go_wp2_with fail
      refine (trim_any _ w.heap.size (ln x - q) (ln x - q) (x / 2 ^ n) (by omega) (by omega) hN fun j hj => by rw [hrowk.cell hj, part_below (by have := HE.out; omega)]).mono ?_
      rintro e w' ⟨rfl, rfl⟩
      go_wp2
      go_ret
      exact ⟨_, rfl, Nat32.ofRow hrowk (ln_le hN) fun j hj => part_below (by have := ln_le hN; have := HE.out; omega), hbelk⟩
set_option maxHeartbeats 400000 in
/-- 'x.shr(n)'. -/
theorem shr_any (x n : Nat) (A : Option Addr) (w : World) (hx : Nat32 w A x) (hbx : ln x ≤ 35184372088832) (hn : n ≤ 1099511627776) :
    Calls Tryz.prog 191 #[.slice A (ln x) (ln x), .int .i64 (n : Nat)] w (RetNat w (x / 2 ^ n)) := by
  obtain ⟨q, r, hnq, hr⟩ : ∃ q r, n = 32 * q + r ∧ r < 32 := ⟨n / 32, n % 32, by omega, by omega⟩
  by_cases hql : q < ln x
  · exact shr_pos x n q r A w hx hbx hn hnq hr hql
  · have H := Lib.hid (retNat_nil (w := w) (w' := w) (shr_all (x := x) hnq (by omega)) (Below.refl _ _))
    have hq : (n : Int) / 32 = (q : Int) := by omega
    have hr' : (n : Int) % 32 = (r : Int) := by omega
    have hqb : q ≤ 1099511627776 := by omega
    clear hnq
    go_enter Tryz.func191, Tryz.ntmps191
    go_wp2
    go_ret
    exact H.out

end Go.Proofs.YtgpmlhpgdalheaaGreat
