/- Plain arithmetic of the words of a number (base 2^32): the word number j, the number of words, and the single steps of addition, subtraction, multiplication, shifts and short division. No program is in sight, no condition but those that stand at each theorem. -/
import Derived.Test.YtgpmlhpgdalheaaGreatNatA
namespace Go.Proofs.YtgpmlhpgdalheaaGreat
namespace Pl

/-- The word number j. -/
def wd (n j : Nat) : Nat := n / 4294967296 ^ j % 4294967296

theorem wd_lt (n j : Nat) : wd n j < 4294967296 := Nat.mod_lt _ (by omega)
theorem wd_zero (j : Nat) : wd 0 j = 0 := by simp [wd]
theorem wd_0 (n : Nat) : wd n 0 = n % 4294967296 := by simp [wd]
theorem wd_1 (n : Nat) : wd n 1 = n / 4294967296 % 4294967296 := by simp [wd]
theorem mod_succ (n j : Nat) : n % 4294967296 ^ (j + 1) = n % 4294967296 ^ j + 4294967296 ^ j * wd n j := by
  rw [Nat.pow_succ, Nat.mod_mul]; rfl
theorem wd_top {n j : Nat} (h : n < 4294967296 ^ j) {k : Nat} (hk : j ≤ k) : wd n k = 0 := by
  have h2 : n < 4294967296 ^ k := Nat.lt_of_lt_of_le h (Nat.pow_le_pow_right (by omega) hk)
  rw [wd, Nat.div_eq_of_lt h2]
theorem wd_high {n k : Nat} (hk : ln n ≤ k) : wd n k = 0 := wd_top (lt_ln n) hk
theorem wd_div (n i j : Nat) : wd (n / 4294967296 ^ i) j = wd n (i + j) := by
  rw [wd, wd, Nat.div_div_eq_div_mul, ← Nat.pow_add]
theorem wd_last {n : Nat} (h : n ≠ 0) : wd n (ln n - 1) ≠ 0 := by
  have h1 := ln_ge h
  have h2 := lt_ln n
  have h3 := ln_pos h
  have h4 : ln n = ln n - 1 + 1 := by omega
  rw [h4, Nat.pow_succ] at h2
  have h5 : 0 < n / 4294967296 ^ (ln n - 1) := Nat.div_pos h1 (pow_pos' _)
  have h6 : n / 4294967296 ^ (ln n - 1) < 4294967296 := (Nat.div_lt_iff_lt_mul (pow_pos' _)).2 (by rw [Nat.mul_comm]; exact h2)
  rw [wd, Nat.mod_eq_of_lt h6]; omega
theorem ln_of_lt {n k : Nat} (h : n < 4294967296 ^ k) (h2 : k = 0 ∨ wd n (k - 1) ≠ 0) : ln n = k := by
  have h3 := ln_le h
  rcases h2 with rfl | h2
  · omega
  · rcases Nat.lt_or_ge (ln n) k with h4 | h4
    · exact absurd (wd_high (show ln n ≤ k - 1 by omega)) h2
    · omega
theorem ln_gt {n k : Nat} (h : 4294967296 ^ k ≤ n) : k < ln n := by
  have h2 := lt_ln n
  exact (Nat.pow_lt_pow_iff_right (show 1 < 4294967296 by omega)).1 (Nat.lt_of_le_of_lt h h2)
theorem lt_of_ln {n k : Nat} (h : ln n ≤ k) : n < 4294967296 ^ k := Nat.lt_of_lt_of_le (lt_ln n) (Nat.pow_le_pow_right (by omega) h)
theorem eq_of_wd {a b k : Nat} (ha : a < 4294967296 ^ k) (hb : b < 4294967296 ^ k) (h : ∀ j, j < k → wd a j = wd b j) : a = b := by
  rw [← Nat.mod_eq_of_lt ha, ← Nat.mod_eq_of_lt hb]
  clear ha hb
  induction k with
  | zero => simp [Nat.mod_one]
  | succ k ih => rw [mod_succ, mod_succ, ih fun j hj => h j (by omega), h k (by omega)]

/-- What the words below k say. -/
def vl (f : Nat → Nat) : Nat → Nat
  | 0 => 0
  | k + 1 => vl f k + 4294967296 ^ k * f k

theorem vl_lt {f : Nat → Nat} {k : Nat} (h : ∀ j, j < k → f j < 4294967296) : vl f k < 4294967296 ^ k := by
  induction k with
  | zero => simp [vl]
  | succ k ih =>
    have h1 := ih fun j hj => h j (by omega)
    have h2 := h k (by omega)
    have h3 : 4294967296 ^ k * (f k + 1) ≤ 4294967296 ^ k * 4294967296 := Nat.mul_le_mul_left _ (by omega)
    rw [Nat.mul_add, Nat.mul_one] at h3
    rw [vl, Nat.pow_succ]; omega
theorem vl_wd (n k : Nat) : vl (wd n) k = n % 4294967296 ^ k := by
  induction k with
  | zero => simp [vl, Nat.mod_one]
  | succ k ih => rw [vl, ih, mod_succ]
theorem vl_congr {f g : Nat → Nat} {k : Nat} (h : ∀ j, j < k → f j = g j) : vl f k = vl g k := by
  induction k with
  | zero => rfl
  | succ k ih => rw [vl, vl, ih fun j hj => h j (by omega), h k (by omega)]
theorem wd_vl {f : Nat → Nat} {k : Nat} (h : ∀ j, j < k → f j < 4294967296) {j : Nat} (hj : j < k) : wd (vl f k) j = f j := by
  induction k with
  | zero => omega
  | succ k ih =>
    have h1 := ih fun j hj => h j (by omega)
    have h0 := vl_lt fun j (hj : j < k) => h j (by omega)
    rcases Nat.lt_or_ge j k with h2 | h2
    · rw [← h1 h2, vl, wd, wd]
      have h3 : 4294967296 ^ k = 4294967296 ^ j * (4294967296 * 4294967296 ^ (k - j - 1)) := by
        rw [Nat.mul_comm 4294967296 (4294967296 ^ (k - j - 1)), ← Nat.pow_succ, ← Nat.pow_add]; congr 1; omega
      rw [h3, Nat.mul_assoc, Nat.add_mul_div_left _ _ (pow_pos' _), Nat.mul_assoc, Nat.add_mul_mod_self_left]
    · obtain rfl : j = k := by omega
      rw [vl, wd, Nat.add_mul_div_left _ _ (pow_pos' _), Nat.div_eq_of_lt h0, Nat.zero_add, Nat.mod_eq_of_lt (h j (by omega))]

section
variable {X Y p : Nat}

theorem add_word (hp : 0 < p) : (X / p % 4294967296 + Y / p % 4294967296 + (X % p + Y % p) / p) % 4294967296 = (X + Y) / p % 4294967296 := by
  have h1 : X + Y = p * (X / p + Y / p) + (X % p + Y % p) := by
    have := Nat.div_add_mod X p; have := Nat.div_add_mod Y p; rw [Nat.mul_add]; omega
  have h2 : (X + Y) / p = X / p + Y / p + (X % p + Y % p) / p := by
    conv => lhs; rw [h1]
    rw [Nat.mul_add_div hp]
  rw [h2]; omega

theorem add_carry (hp : 0 < p) : (X / p % 4294967296 + Y / p % 4294967296 + (X % p + Y % p) / p) / 4294967296 = (X % (p * 4294967296) + Y % (p * 4294967296)) / (p * 4294967296) := by
  rw [← Nat.div_div_eq_div_mul, Nat.mod_mul, Nat.mod_mul]
  have h : X % p + p * (X / p % 4294967296) + (Y % p + p * (Y / p % 4294967296)) = p * (X / p % 4294967296 + Y / p % 4294967296) + (X % p + Y % p) := by rw [Nat.mul_add]; omega
  rw [h, Nat.mul_add_div hp]

theorem carry_le (hp : 0 < p) : (X % p + Y % p) / p ≤ 1 := by
  have h1 := Nat.mod_lt X hp
  have h2 := Nat.mod_lt Y hp
  have : (X % p + Y % p) / p < 2 := (Nat.div_lt_iff_lt_mul hp).2 (by omega)
  omega

/-- The borrow out of the words below p. -/
def bor (X Y p : Nat) : Nat := if X % p < Y % p then 1 else 0

theorem bor_le : bor X Y p ≤ 1 := by unfold bor; split <;> omega

theorem sub_carry (hp : 0 < p) : bor X Y (p * 4294967296) = if X / p % 4294967296 < Y / p % 4294967296 + bor X Y p then 1 else 0 := by
  unfold bor
  rw [Nat.mod_mul, Nat.mod_mul]
  have h1 := Nat.mod_lt X hp
  have h2 := Nat.mod_lt Y hp
  generalize X / p % 4294967296 = a
  generalize Y / p % 4294967296 = b
  rcases Nat.lt_trichotomy a b with h | h | h
  · have h3 : p * (a + 1) ≤ p * b := Nat.mul_le_mul_left p h
    rw [Nat.mul_add] at h3
    rw [if_pos (by omega), if_pos (by omega)]
  · subst h
    by_cases h4 : X % p < Y % p
    · rw [if_pos (by omega), if_pos (by simp [h4])]
    · rw [if_neg (by omega), if_neg (by simp [h4])]
  · have h3 : p * (b + 1) ≤ p * a := Nat.mul_le_mul_left p h
    rw [Nat.mul_add] at h3
    rw [if_neg (by omega)]
    split <;> rw [if_neg (by omega)]

/-- One word of X + p B M - Y. -/
theorem sub_word (hp : 0 < p) (M : Nat) (h : Y ≤ X + p * 4294967296 * M) :
    (X / p % 4294967296 + 8589934592 - Y / p % 4294967296 - bor X Y p) % 4294967296 = (X + p * 4294967296 * M - Y) / p % 4294967296 := by
  have hx := Nat.div_add_mod X p
  have hy := Nat.div_add_mod Y p
  have h1 := Nat.mod_lt X hp
  have h2 := Nat.mod_lt Y hp
  have hb : Y / p + bor X Y p ≤ X / p + 4294967296 * M := by
    unfold bor
    have e : p * 4294967296 * M = p * (4294967296 * M) := Nat.mul_assoc _ _ _
    rcases Nat.lt_or_ge (X / p + 4294967296 * M) (Y / p) with h3 | h3
    · have h4 : p * (X / p + 4294967296 * M + 1) ≤ p * (Y / p) := Nat.mul_le_mul_left p h3
      rw [Nat.mul_add, Nat.mul_add] at h4
      omega
    · split
      · rcases Nat.lt_or_ge (Y / p) (X / p + 4294967296 * M) with h5 | h5
        · omega
        · have h6 : Y / p = X / p + 4294967296 * M := by omega
          rw [h6, Nat.mul_add] at hy
          omega
      · omega
  have h3 : X + p * 4294967296 * M - Y = p * (X / p + 4294967296 * M - Y / p - bor X Y p) + (X % p + p * bor X Y p - Y % p) := by
    rw [Nat.mul_sub, Nat.mul_sub, Nat.mul_add, ← Nat.mul_assoc]
    unfold bor at hb ⊢
    split
    · rename_i hlt
      rw [if_pos hlt] at hb
      have h6 : p * (Y / p + 1) ≤ p * (X / p + 4294967296 * M) := Nat.mul_le_mul_left p hb
      rw [Nat.mul_add, Nat.mul_add, ← Nat.mul_assoc] at h6
      omega
    · rename_i hlt
      rw [if_neg hlt] at hb
      have h6 : p * (Y / p + 0) ≤ p * (X / p + 4294967296 * M) := Nat.mul_le_mul_left p hb
      rw [Nat.mul_add, Nat.mul_add, ← Nat.mul_assoc] at h6
      omega
  have h4 : X % p + p * bor X Y p - Y % p < p := by
    unfold bor
    split <;> omega
  rw [h3, Nat.mul_add_div hp, Nat.div_eq_of_lt h4]
  have h5 : bor X Y p ≤ 1 := bor_le
  omega

end

/-- The words of a sum. -/
theorem wd_add_high (a b i j : Nat) (h : j < i) : wd (a + 4294967296 ^ i * b) j = wd a j := by
  have h3 : 4294967296 ^ i = 4294967296 ^ j * (4294967296 * 4294967296 ^ (i - j - 1)) := by
    rw [Nat.mul_comm 4294967296 (4294967296 ^ (i - j - 1)), ← Nat.pow_succ, ← Nat.pow_add]; congr 1; omega
  rw [wd, wd, h3, Nat.mul_assoc, Nat.add_mul_div_left _ _ (pow_pos' _), Nat.mul_assoc, Nat.add_mul_mod_self_left]

theorem wd_add_at (a b i : Nat) : wd (a + 4294967296 ^ i * b) i = (a / 4294967296 ^ i + b) % 4294967296 := by
  rw [wd, Nat.add_mul_div_left _ _ (pow_pos' _)]

/-- The rounds of a multiplication: what stands after k words of Y by the word a, at the place i, over P. -/
def mt (P Y a i k : Nat) : Nat := P % 4294967296 ^ (i + k) + 4294967296 ^ i * a * (Y % 4294967296 ^ k)

theorem mt_succ (P Y a i k : Nat) : mt P Y a i (k + 1) = mt P Y a i k + 4294967296 ^ (i + k) * (wd P (i + k) + a * wd Y k) := by
  unfold mt
  rw [← Nat.add_assoc, mod_succ, mod_succ, Nat.mul_add (4294967296 ^ (i + k)), Nat.mul_add (4294967296 ^ i * a), Nat.pow_add]
  have : 4294967296 ^ i * a * (4294967296 ^ k * wd Y k) = 4294967296 ^ i * 4294967296 ^ k * (a * wd Y k) := by
    simp only [Nat.mul_assoc, Nat.mul_left_comm]
  omega

theorem mt_lt {a : Nat} (ha : a < 4294967296) (P Y i k : Nat) : mt P Y a i k < 4294967296 ^ (i + k) * 4294967296 := by
  unfold mt
  have h1 := Nat.mod_lt P (pow_pos' (i + k))
  have h2 := Nat.mod_lt Y (pow_pos' k)
  have h3 : 4294967296 ^ i * a * (Y % 4294967296 ^ k) ≤ 4294967296 ^ i * 4294967295 * 4294967296 ^ k := Nat.mul_le_mul (Nat.mul_le_mul_left _ (by omega)) (by omega)
  have h4 : 4294967296 ^ i * 4294967295 * 4294967296 ^ k = 4294967296 ^ (i + k) * 4294967295 := by
    rw [Nat.pow_add]; simp only [Nat.mul_assoc, Nat.mul_comm]
  have h5 : 4294967296 ^ (i + k) * 4294967296 = 4294967296 ^ (i + k) * 4294967295 + 4294967296 ^ (i + k) := by
    rw [show (4294967296 : Nat) = 4294967295 + 1 by rfl, Nat.mul_add, Nat.mul_one]
  omega

/-- What a round of a multiplication carries. -/
def mc (P Y a i k : Nat) : Nat := mt P Y a i k / 4294967296 ^ (i + k)

theorem mc_zero (P Y a i : Nat) : mc P Y a i 0 = 0 := by
  unfold mc mt
  have h1 := Nat.mod_lt P (pow_pos' (i + 0))
  rw [Nat.div_eq_of_lt]
  simp [Nat.mod_one] at *
  exact h1
theorem mc_lt {a : Nat} (ha : a < 4294967296) (P Y i k : Nat) : mc P Y a i k < 4294967296 :=
  (Nat.div_lt_iff_lt_mul (pow_pos' _)).2 (by rw [Nat.mul_comm]; exact mt_lt ha P Y i k)
theorem mt_word (P Y a i k : Nat) : wd (mt P Y a i (k + 1)) (i + k) = (mc P Y a i k + (a * wd Y k + wd P (i + k))) % 4294967296 := by
  rw [mt_succ, wd_add_at, mc]; congr 1; omega
theorem mt_carry (P Y a i k : Nat) : mc P Y a i (k + 1) = (mc P Y a i k + (a * wd Y k + wd P (i + k))) / 4294967296 := by
  rw [mc, mc, mt_succ, ← Nat.add_assoc, Nat.pow_succ, ← Nat.div_div_eq_div_mul, Nat.add_mul_div_left _ _ (pow_pos' _)]
  congr 1; omega
theorem mt_low (P Y a i k j : Nat) (h : j < i + k) : wd (mt P Y a i (k + 1)) j = wd (mt P Y a i k) j := by
  rw [mt_succ, wd_add_high _ _ _ _ h]
theorem mt_zero_low (P Y a i j : Nat) (h : j < i) : wd (mt P Y a i 0) j = wd P j := by
  unfold mt
  rw [Nat.pow_zero, Nat.mod_one, Nat.mul_zero, Nat.add_zero, Nat.add_zero]
  conv => rhs; rw [← Nat.mod_add_div P (4294967296 ^ i)]
  rw [wd_add_high _ _ _ _ h]
theorem mt_end {P Y a i l : Nat} (hP : P < 4294967296 ^ (i + l)) (hY : Y < 4294967296 ^ l) : mt P Y a i l = P + 4294967296 ^ i * a * Y := by
  rw [mt, Nat.mod_eq_of_lt hP, Nat.mod_eq_of_lt hY]
theorem mul_round (X Y i : Nat) : X % 4294967296 ^ i * Y + 4294967296 ^ i * wd X i * Y = X % 4294967296 ^ (i + 1) * Y := by
  rw [mod_succ, Nat.add_mul]
theorem mul_part_lt (X Y i : Nat) : X % 4294967296 ^ i * Y < 4294967296 ^ (i + ln Y) := by
  rw [Nat.pow_add]
  have h1 := Nat.mod_lt X (pow_pos' i)
  have h2 := lt_ln Y
  exact Nat.mul_lt_mul'' h1 h2

theorem lin_top {n j : Nat} (h : n < 4294967296 ^ (j + 1)) : wd n j = n / 4294967296 ^ j := by
  rw [wd, Nat.mod_eq_of_lt]
  rw [Nat.pow_succ] at h
  exact (Nat.div_lt_iff_lt_mul (pow_pos' _)).2 (by rw [Nat.mul_comm]; exact h)

/-- One word of a shift to the right. -/
theorem shr_word (X w r i : Nat) (hr : r < 32) : wd (X / 2 ^ (32 * w + r)) i = (wd X (i + w) + 4294967296 * wd X (i + w + 1)) / 2 ^ r % 4294967296 := by
  have e : 2 ^ (32 * w + r) = 4294967296 ^ w * 2 ^ r := by rw [Nat.pow_add, Nat.pow_mul]
  have h1 : X / 2 ^ (32 * w + r) / 4294967296 ^ i = X / 4294967296 ^ (i + w) / 2 ^ r := by
    rw [e, Nat.div_div_eq_div_mul, Nat.div_div_eq_div_mul]; congr 1
    rw [Nat.pow_add, Nat.mul_assoc, Nat.mul_comm (2 ^ r), ← Nat.mul_assoc, Nat.mul_comm (4294967296 ^ w)]
  rw [wd, h1, wd, wd, Nat.pow_succ, ← Nat.div_div_eq_div_mul]
  generalize X / 4294967296 ^ (i + w) = Z
  have h2 : Z % 4294967296 + 4294967296 * (Z / 4294967296 % 4294967296) = Z % (4294967296 * 4294967296) := (Nat.mod_mul).symm
  rw [h2]
  have h3 : (4294967296 * 4294967296 : Nat) = 2 ^ r * 2 ^ (64 - r) := by rw [← Nat.pow_add, show r + (64 - r) = 64 by omega]
  rw [h3, Nat.mod_mul_right_div_self]
  have h4 : 2 ^ (64 - r) = 4294967296 * 2 ^ (32 - r) := by
    rw [show 64 - r = 32 + (32 - r) by omega, Nat.pow_add]
  rw [h4, Nat.mod_mul_right_mod]

/-- The steps of a shift to the left. -/
theorem shl_step (X w r i : Nat) : X % 4294967296 ^ (i + 1) * 2 ^ (32 * w + r) = X % 4294967296 ^ i * 2 ^ (32 * w + r) + 4294967296 ^ (i + w) * (wd X i * 2 ^ r) := by
  have e : 2 ^ (32 * w + r) = 4294967296 ^ w * 2 ^ r := by rw [Nat.pow_add, Nat.pow_mul]
  rw [mod_succ, Nat.add_mul, e, Nat.pow_add]
  congr 1
  simp only [Nat.mul_assoc, Nat.mul_left_comm, Nat.mul_comm]
theorem shl_lt (X w r i : Nat) : X % 4294967296 ^ i * 2 ^ (32 * w + r) < 4294967296 ^ (i + w) * 2 ^ r := by
  have e : 2 ^ (32 * w + r) = 4294967296 ^ w * 2 ^ r := by rw [Nat.pow_add, Nat.pow_mul]
  rw [e, Nat.pow_add, ← Nat.mul_assoc]
  have h1 := Nat.mod_lt X (pow_pos' i)
  have h2 : 0 < 4294967296 ^ w * 2 ^ r := Nat.mul_pos (pow_pos' _) (Nat.pow_pos (by omega))
  rw [Nat.mul_assoc, Nat.mul_assoc]
  exact Nat.mul_lt_mul_of_pos_right h1 h2

/-- A number below 2^r and a multiple of 2^r: or is plus. -/
theorem or_plus {a b r : Nat} (ha : a < 2 ^ r) (hb : b % 2 ^ r = 0) : a ||| b = a + b := by
  have h1 : b = 2 ^ r * (b / 2 ^ r) := by have := Nat.div_add_mod b (2 ^ r); omega
  have h2 := Nat.two_pow_add_eq_or_of_lt ha (b / 2 ^ r)
  rw [← h1] at h2
  rw [Nat.or_comm, ← h2, Nat.add_comm]

/-- One step of a short division: the rest of what stands above, times the base, and a word. -/
theorem short_word (X y i : Nat) (hy : 0 < y) : wd (X / y) i = (X / 4294967296 ^ (i + 1) % y * 4294967296 + wd X i) / y := by
  have h1 : X / y / 4294967296 ^ i = X / 4294967296 ^ i / y := by rw [Nat.div_div_eq_div_mul, Nat.div_div_eq_div_mul, Nat.mul_comm]
  rw [wd, h1, wd, Nat.pow_succ, ← Nat.div_div_eq_div_mul]
  generalize X / 4294967296 ^ i = Z
  have h2 := Nat.div_add_mod Z 4294967296
  have h3 := Nat.div_add_mod (Z / 4294967296) y
  have h4 := Nat.mod_lt (Z / 4294967296) hy
  have h5 : Z = y * (4294967296 * (Z / 4294967296 / y)) + (Z / 4294967296 % y * 4294967296 + Z % 4294967296) := by
    have e : y * (4294967296 * (Z / 4294967296 / y)) = 4294967296 * (y * (Z / 4294967296 / y)) := Nat.mul_left_comm _ _ _
    omega
  have h6 : (Z / 4294967296 % y * 4294967296 + Z % 4294967296) / y < 4294967296 :=
    (Nat.div_lt_iff_lt_mul hy).2 (by
      have : (Z / 4294967296 % y + 1) * 4294967296 ≤ y * 4294967296 := Nat.mul_le_mul_right _ h4
      have := Nat.mod_lt Z (show 0 < 4294967296 by omega)
      rw [Nat.mul_comm 4294967296 y]; omega)
  have h7 : Z / y = 4294967296 * (Z / 4294967296 / y) + (Z / 4294967296 % y * 4294967296 + Z % 4294967296) / y := by
    conv => lhs; rw [h5]
    rw [Nat.mul_add_div hy]
  rw [h7, Nat.mul_add_mod, Nat.mod_eq_of_lt h6]

theorem short_rest (X y i : Nat) : X / 4294967296 ^ i % y = (X / 4294967296 ^ (i + 1) % y * 4294967296 + wd X i) % y := by
  rw [wd, Nat.pow_succ, ← Nat.div_div_eq_div_mul]
  generalize X / 4294967296 ^ i = Z
  have h2 := Nat.div_add_mod Z 4294967296
  conv => lhs; rw [← h2, Nat.add_mod, Nat.mul_comm 4294967296, Nat.mul_mod]
  conv => rhs; rw [Nat.add_mod, Nat.mul_mod, Nat.mod_mod]

end Pl
end Go.Proofs.YtgpmlhpgdalheaaGreat
