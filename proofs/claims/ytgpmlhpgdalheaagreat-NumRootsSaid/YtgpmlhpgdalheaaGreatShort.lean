/- 'nat.short': quotient and remainder of a number and one word, and Div32. Conditions: at most 2^45 words, the divisor a word that is not 0. -/
import Derived.Test.YtgpmlhpgdalheaaGreatShr
namespace Go.Proofs.YtgpmlhpgdalheaaGreat
open Go.RowKit Pl

theorem hl_or {h l : Nat} (hh : h < 4294967296) (hl : l < 4294967296) : bits .or .u64 ((h : Int) * 4294967296) (l : Nat) = ((h * 4294967296 + l : Nat) : Int) := by
  have e : (h : Int) * 4294967296 = ((h * 4294967296 : Nat) : Int) := by omega
  rw [e, u64_or_nat _ _ (by omega) (by omega), Nat.or_comm, or_plus (r := 32) (by simpa using hl) (by simp)]
  omega

/-- Two words as one number. -/
def hl (h l : Nat) : Nat := h * 4294967296 + l

def dq (h l y : Nat) : Nat := hl h l / y
def dr (h l y : Nat) : Nat := hl h l % y

theorem div32_any (h l y : Nat) (hh : h < y) (hl0 : l < 4294967296) (hy : y < 4294967296) (w : World) :
    Calls Tryz.prog 202 #[.int .u32 h, .int .u32 l, .int .u32 y] w fun e w' => e = .returned (.tuple #[.int .u32 (dq h l y : Nat), .int .u32 (dr h l y : Nat)]) ∧ Below w.heap.size w w' := by
  have hor := hl_or (h := h) (l := l) (by omega) hl0
  have t1 : ((y : Int) != 0) = true := by rw [bne_iff_ne]; omega
  have t2 : decide (y ≤ h) = false := by simpa using hh
  have e : ((h * 4294967296 + l : Nat) : Int) = (hl h l : Nat) := rfl
  have b1 : hl h l < 18446744073709551616 := by unfold hl; omega
  rw [e] at hor
  clear e
  go_enter Tryz.func202, Tryz.ntmps202
  go_wp2
  go_quiet (fail)
  go_wp2
  go_ret2
  have b2 : hl h l / y < 4294967296 := (Nat.div_lt_iff_lt_mul (by omega)).2 (by
    have : (h + 1) * 4294967296 ≤ y * 4294967296 := Nat.mul_le_mul_right _ hh
    unfold hl; rw [Nat.mul_comm 4294967296]; omega)
  have b3 : hl h l % y < y := Nat.mod_lt _ (by omega)
  have e1 : (hl h l : Int) / (y : Int) = ((hl h l / y : Nat) : Int) := (Int.natCast_ediv _ _).symm
  have e2 : (hl h l : Int) % (y : Int) = ((hl h l % y : Nat) : Int) := (Int.natCast_emod _ _).symm
  refine ⟨ret_two (int_val ?_) (int_val ?_), below_drewN (Below.refl _ _) _⟩
  · rw [e1, IntKind.wrap_u64]; unfold dq; generalize hl h l / y = z at *; omega
  · rw [e2]; unfold dr; generalize hl h l % y = z at *; omega

/-- What stands in the row when the words from k on are done. -/
def above (n k : Nat) (j : Nat) : Value := .int .u32 ((if k ≤ j then wd n j else 0 : Nat) : Int)
theorem above_all (n : Nat) {k j : Nat} (h : j < k) : above n k j = .int .u32 0 := by unfold above; rw [if_neg (by omega)]; rfl
theorem above_zero (n j : Nat) : above n 0 j = .int .u32 (wd n j : Nat) := by unfold above; rw [if_pos (by omega)]
theorem above_step {n k j : Nat} (hk : 0 < k) {v : Value} (hv : v = .int .u32 (wd n (k - 1) : Nat)) : (if j = k - 1 then v else above n k j) = above n (k - 1) j := by
  unfold above
  by_cases h : j = k - 1
  · subst h; rw [if_pos rfl, hv, if_pos (Nat.le_refl _)]
  · rw [if_neg h]
    by_cases h2 : k ≤ j
    · rw [if_pos h2, if_pos (by omega)]
    · rw [if_neg h2, if_neg (by omega)]

/-- The rest of what stands above word k. -/
def rs (x y k : Nat) : Nat := x / 4294967296 ^ k % y
theorem rs_top (x y : Nat) : rs x y (ln x) = 0 := by unfold rs; rw [Nat.div_eq_of_lt (lt_ln x), Nat.zero_mod]
theorem rs_zero (x y : Nat) : rs x y 0 = x % y := by simp [rs]
theorem rs_lt (x k : Nat) {y : Nat} (hy : 0 < y) : rs x y k < y := Nat.mod_lt _ hy
theorem rs_word {x y k : Nat} (hy : 0 < y) (hk : 0 < k) : dq (rs x y k) (wd x (k - 1)) y = wd (x / y) (k - 1) := by
  have h := short_word x y (k - 1) hy
  rw [show k - 1 + 1 = k by omega] at h
  exact h.symm
theorem rs_rest {x y k : Nat} (hk : 0 < k) : dr (rs x y k) (wd x (k - 1)) y = rs x y (k - 1) := by
  have h := short_rest x y (k - 1)
  rw [show k - 1 + 1 = k by omega] at h
  exact h.symm

/-- A call hands back a quotient in words and a rest. -/
def RetShort (w : World) (q r : Nat) (e : Ending) (w' : World) : Prop := ∃ A, e = .returned (.tuple #[.slice A (ln q) (ln q), .int .u32 (r : Nat)]) ∧ Nat32 w' A q ∧ Below w.heap.size w w'

set_option maxHeartbeats 1000000 in
/-- 'x.short(y)'. -/
theorem short_any (x y : Nat) (A : Option Addr) (w : World) (hx : Nat32 w A x) (hbx : ln x ≤ 35184372088832) (hy0 : 0 < y) (hy : y < 4294967296) :
    Calls Tryz.prog 188 #[.slice A (ln x) (ln x), .int .u32 (y : Nat)] w (RetShort w (x / y) (x % y)) := by
  have hmk := mk_nat (ln x) (by omega)
  have hN : x / y < 4294967296 ^ ln x := lt_of_ln (ln_mono (Nat.div_le_self _ _))
  go_enter Tryz.func188, Tryz.ntmps188
  go_wp2_with fail
  have hrow := (World.rowIs_made w (.int .u32 0) (ln x) 45).congr (g := above (x / y) (ln x)) fun j hj => (above_all _ hj).symm
  have hbel := (Below.refl w.heap.size w).alloc (Nat.le_refl _) (.cells (madeCells #[.int .u32 0] (ln x)) 45)
  clear hmk
  go_loopw [7, 8] (fun r i wr => ∃ k : Nat, k ≤ ln x ∧ i = .int .i64 ((k : Int) - 1) ∧ r = .int .u32 (rs x y k : Nat) ∧ wr.rowIs w.heap.size 45 (ln x) (above (x / y) k) ∧ Below w.heap.size w wr) (fun _ i _ => (intOf i + 1).toNat)
  case atStart => exact ⟨ln x, Nat.le_refl _, by go_num, by rw [rs_top]; rfl, hrow, hbel⟩
  case round =>
    obtain ⟨k, hk, rfl, rfl, hrowk, hbelk⟩ := hrel
    clear hrow hbel
    by_cases hk0 : 0 < k
    · have hx0 : x ≠ 0 := fun e => by rw [e, ln_zero] at hk; omega
      obtain ⟨b, rfl, hb, hcx⟩ := hx hx0
      have hxk := (hbelk.cell (p := ⟨b, k - 1, none⟩) hb).trans (hcx (k - 1) (by omega))
      have hst := hrowk.cell (i := k - 1) (by omega)
      have hfr := hrowk.frozen (k - 1)
      clear hcx
      go_wp2_with fail
      refine (div32_any (rs x y k) (wd x (k - 1)) y (rs_lt x k hy0) (wd_lt _ _) hy _).mono ?_
      rintro e w1 ⟨rfl, hb1⟩
      have hrow1 := hrowk.of_block (hb1.block _ hrowk.lt)
      have hst1 := hrow1.cell (i := k - 1) (by omega)
      have hfr1 := hrow1.frozen (k - 1)
      have hbel1 := hbelk.trans (hb1.mono hbelk.size)
      have HW := Lib.hid (rs_word (x := x) hy0 hk0)
      have HR := Lib.hid (rs_rest (x := x) (y := y) hk0)
      clear hst hfr hrowk hbelk hb1
      go_wp2
      go_roundw
      case rel => exact ⟨k - 1, by omega, by go_num, int_val (by rw [HR.out]), (hrow1.set _ _).congr fun j _ => above_step hk0 (int_val (by rw [HW.out])), hbel1.setCell (by simp) _⟩
      case measure => simp [intOf]; omega
    · obtain rfl : k = 0 := by omega
      have hR := rs_zero x y
      go_wp2_with fail
      refine (trim_any _ w.heap.size (ln x) (ln x) (x / y) (by omega) (by omega) hN fun j hj => by rw [hrowk.cell hj, above_zero]).mono ?_
      rintro e w' ⟨rfl, rfl⟩
      go_wp2
      go_ret2
      exact ⟨_, rfl, Nat32.ofRow hrowk (ln_le hN) fun j hj => above_zero _ _, hbelk⟩

end Go.Proofs.YtgpmlhpgdalheaaGreat
