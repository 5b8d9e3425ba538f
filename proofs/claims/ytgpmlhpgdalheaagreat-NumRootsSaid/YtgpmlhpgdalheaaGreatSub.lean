/- 'nat.sub': the difference of two numbers in words. Condition: at most 2^45 words, the second number not above the first. -/
import Derived.Test.YtgpmlhpgdalheaaGreatAdd
namespace Go.Proofs.YtgpmlhpgdalheaaGreat
open Go.RowKit Pl

theorem sub_bit (x y d : Nat) : (((4294967295 ^^^ x) &&& y) ||| ((4294967295 ^^^ (x ^^^ y)) &&& d)) / 2147483648 = ((1 ^^^ x / 2147483648) &&& (y / 2147483648)) ||| ((1 ^^^ (x / 2147483648 ^^^ y / 2147483648)) &&& (d / 2147483648)) := by
  have e : ∀ n : Nat, n / 2147483648 = n >>> 31 := fun n => by rw [Nat.shiftRight_eq_div_pow]
  simp only [e, Nat.shiftRight_or_distrib, Nat.shiftRight_and_distrib, Nat.shiftRight_xor_distrib, show (4294967295 >>> 31 : Nat) = 1 by decide]
theorem sub_bor (x y c d : Nat) (hx : x < 4294967296) (hy : y < 4294967296) (hc : c ≤ 1) (hd : d = (x + 8589934592 - y - c) % 4294967296) : (((4294967295 ^^^ x) &&& y) ||| ((4294967295 ^^^ (x ^^^ y)) &&& d)) / 2147483648 = if x < y + c then 1 else 0 := by
  rw [sub_bit]
  have h1 : x / 2147483648 = 0 ∨ x / 2147483648 = 1 := by omega
  have h2 : y / 2147483648 = 0 ∨ y / 2147483648 = 1 := by omega
  have h3 : d / 2147483648 = 0 ∨ d / 2147483648 = 1 := by omega
  rcases h1 with h1 | h1 <;> rcases h2 with h2 | h2 <;> rcases h3 with h3 | h3 <;> rw [h1, h2, h3] <;> simp only [show ((1 ^^^ 0) &&& 0 ||| (1 ^^^ (0 ^^^ 0)) &&& 0 : Nat) = 0 by decide, show ((1 ^^^ 0) &&& 0 ||| (1 ^^^ (0 ^^^ 0)) &&& 1 : Nat) = 1 by decide, show ((1 ^^^ 0) &&& 1 ||| (1 ^^^ (0 ^^^ 1)) &&& 0 : Nat) = 1 by decide, show ((1 ^^^ 0) &&& 1 ||| (1 ^^^ (0 ^^^ 1)) &&& 1 : Nat) = 1 by decide, show ((1 ^^^ 1) &&& 0 ||| (1 ^^^ (1 ^^^ 0)) &&& 0 : Nat) = 0 by decide, show ((1 ^^^ 1) &&& 0 ||| (1 ^^^ (1 ^^^ 0)) &&& 1 : Nat) = 0 by decide, show ((1 ^^^ 1) &&& 1 ||| (1 ^^^ (1 ^^^ 1)) &&& 0 : Nat) = 0 by decide, show ((1 ^^^ 1) &&& 1 ||| (1 ^^^ (1 ^^^ 1)) &&& 1 : Nat) = 1 by decide] <;> split <;> omega

/-- The borrow of one word. -/
def bw (x y c : Nat) : Nat := if x < y + c then 1 else 0

theorem sub32_any (x y c : Nat) (hx : x < 4294967296) (hy : y < 4294967296) (hc : c ≤ 1) (w : World) :
    Calls Tryz.prog 193 #[.int .u32 x, .int .u32 y, .int .u32 c] w fun e w' => e = .returned (.tuple #[.int .u32 ((x + 8589934592 - y - c) % 4294967296 : Nat), .int .u32 (bw x y c : Nat)]) ∧ w = w' := by
  have hsg : IntKind.u32.signed = false := rfl
  go_enter Tryz.func193, Tryz.ntmps193
  go_wp2
  go_ret2
  obtain ⟨d, hd⟩ : ∃ d, d = (x + 8589934592 - y - c) % 4294967296 := ⟨_, rfl⟩
  have e : ((x : Int) - (y : Int) - (c : Int)) % 4294967296 = (d : Int) := by omega
  have em : IntKind.u32.max = ((4294967295 : Nat) : Int) := rfl
  have b1 : 4294967295 ^^^ x < 4294967296 := Nat.xor_lt_two_pow (n := 32) (by omega) hx
  have b2 : x ^^^ y < 4294967296 := Nat.xor_lt_two_pow (n := 32) hx hy
  have b3 : 4294967295 ^^^ (x ^^^ y) < 4294967296 := Nat.xor_lt_two_pow (n := 32) (by omega) b2
  have b4 : (4294967295 ^^^ x) &&& y < 4294967296 := Nat.and_lt_two_pow (n := 32) _ hy
  have hd2 : d < 4294967296 := by omega
  have b5 : (4294967295 ^^^ (x ^^^ y)) &&& d < 4294967296 := Nat.and_lt_two_pow (n := 32) _ hd2
  have h := sub_bor x y c d hx hy hc hd
  refine ⟨ret_two (int_val (by omega)) (int_val ?_), rfl⟩
  rw [e, em, u32_xor_nat _ _ (by omega) hx, u32_and_nat _ _ b1 hy, u32_xor_nat _ _ hx hy, u32_xor_nat _ _ (by omega) b2, u32_and_nat _ _ b3 hd2, u32_or_nat _ _ b4 b5]
  unfold bw
  rw [← h]
  simp

/-- The borrow out of the words below k. -/
def sb (x y k : Nat) : Nat := bor x y (4294967296 ^ k)
theorem sb_zero (x y : Nat) : sb x y 0 = 0 := by simp [sb, bor, Nat.mod_one]
theorem sb_le (x y k : Nat) : sb x y k ≤ 1 := bor_le
theorem sb_step (x y k : Nat) : bw (wd x k) (wd y k) (sb x y k) = sb x y (k + 1) := by
  unfold sb bw wd
  rw [Nat.pow_succ, sub_carry (pow_pos' k)]
theorem sb_word {x y : Nat} (k : Nat) (h : y ≤ x) : (wd x k + 8589934592 - wd y k - sb x y k) % 4294967296 = wd (x - y) k := by
  have h1 : (x / 4294967296 ^ k % 4294967296 + 8589934592 - y / 4294967296 ^ k % 4294967296 - bor x y (4294967296 ^ k)) % 4294967296 = (x + 4294967296 ^ k * 4294967296 * 0 - y) / 4294967296 ^ k % 4294967296 :=
    sub_word (X := x) (Y := y) (pow_pos' k) 0 (Nat.le_trans h (Nat.le_add_right _ _))
  have h2 : x + 4294967296 ^ k * 4294967296 * 0 - y = x - y := by rw [Nat.mul_zero, Nat.add_zero]
  rw [h2] at h1
  unfold sb wd
  exact h1

set_option maxHeartbeats 400000 in
theorem sub_any (x y : Nat) (A B : Option Addr) (w : World) (hx : Nat32 w A x) (hy : Nat32 w B y) (hbx : ln x ≤ 35184372088832) (hle : y ≤ x) :
    Calls Tryz.prog 161 #[.slice A (ln x) (ln x), .slice B (ln y) (ln y)] w (RetNat w (x - y)) := by
  have hmk := mk_nat (ln x) (by omega)
  have hl := ln_mono hle
  go_enter Tryz.func161, Tryz.ntmps161
  go_wp2_with fail
  have hN : x - y < 4294967296 ^ ln x := lt_of_ln (ln_mono (Nat.sub_le _ _))
  have hrow := (World.rowIs_made w (.int .u32 0) (ln x) 45).congr (g := part (x - y) 0) fun j _ => (part_zero _ _).symm
  have hbel := (Below.refl w.heap.size w).alloc (Nat.le_refl _) (.cells (madeCells #[.int .u32 0] (ln x)) 45)
  go_loopw [6, 14] (fun c i wr => ∃ k : Nat, k ≤ ln x ∧ i = .int .i64 k ∧ c = .int .u32 (sb x y k : Nat) ∧ wr.rowIs w.heap.size 45 (ln x) (part (x - y) k) ∧ Below w.heap.size w wr) (fun _ i _ => ln x - (intOf i).toNat)
  case atStart => exact ⟨0, Nat.zero_le _, rfl, by rw [sb_zero]; rfl, hrow, hbel⟩
  case round =>
    obtain ⟨k, hk, rfl, rfl, hrowk, hbelk⟩ := hrel
    clear hrow hbel hmk
    have hc1 := sb_le x y k
    by_cases hlt : k < ln x
    · have hx0 : x ≠ 0 := fun e => by rw [e, ln_zero] at hlt; omega
      obtain ⟨b, rfl, hb, hcx⟩ := hx hx0
      have hxk := (hbelk.cell (p := ⟨b, k, none⟩) hb).trans (hcx k hlt)
      have hst := hrowk.cell (i := k) (by omega)
      have hfr := hrowk.frozen k
      have b1 := wd_lt x k
      have b2 := wd_lt y k
      clear hcx
      by_cases hly : k < ln y
      · have hy0 : y ≠ 0 := fun e => by rw [e, ln_zero] at hly; omega
        obtain ⟨b', rfl, hb', hcy⟩ := hy hy0
        have hyk := (hbelk.cell (p := ⟨b', k, none⟩) hb').trans (hcy k hly)
        clear hcy
        go_wp2_with fail
        refine (sub32_any (wd x k) (wd y k) (sb x y k) b1 b2 hc1 _).mono ?_
        rintro e w' ⟨rfl, rfl⟩
        go_wp2
        go_roundw
        case rel => exact ⟨k + 1, by omega, by go_num, int_val (by rw [sb_step]), (hrowk.set _ _).congr fun j _ => part_step _ _ _ _ (int_val (by have := sb_word k hle; omega)), hbelk.setCell (by simp) _⟩
        case measure => simp [intOf]; omega
      · have hyz := wd_high (n := y) (k := k) (by omega)
        go_wp2_with fail
        refine (sub32_any (wd x k) 0 (sb x y k) b1 (by omega) hc1 _).mono ?_
        rintro e w' ⟨rfl, rfl⟩
        go_wp2
        go_roundw
        case rel => exact ⟨k + 1, by omega, by go_num, int_val (by rw [← sb_step, hyz]), (hrowk.set _ _).congr fun j _ => part_step _ _ _ _ (int_val (by have := sb_word k hle; omega)), hbelk.setCell (by simp) _⟩
        case measure => simp [intOf]; omega
    · obtain rfl : k = ln x := by omega
      go_wp2_with fail
      refine (trim_any _ w.heap.size (ln x) (ln x) (x - y) (by omega) (by omega) hN fun j hj => by rw [hrowk.cell hj, part_below hj]).mono ?_
      rintro e w' ⟨rfl, rfl⟩
      go_wp2
      go_ret
      exact ⟨_, rfl, Nat32.ofRow hrowk (ln_le hN) fun j hj => part_below (by have := ln_le hN; omega), hbelk⟩

end Go.Proofs.YtgpmlhpgdalheaaGreat
