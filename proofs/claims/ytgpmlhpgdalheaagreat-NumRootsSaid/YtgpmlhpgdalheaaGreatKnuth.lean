/- The estimate of one word of a quotient (long division to the base 2^32), in plain numbers: the first guess is not below the true word, each step down keeps it so, and where the steps end it is the word or the word plus one. Conditions: the divisor has two words or more (vt, vs are its two highest) and vt has its highest bit set; the dividend is below the divisor times 2^32. -/
import Derived.Test.YtgpmlhpgdalheaaGreatNatA
namespace Go.Proofs.YtgpmlhpgdalheaaGreat
namespace Pl

section
variable {p V V2 W W2 vt vs top us : Nat}

/-- The first guess is not below the word. -/
theorem kd_ge (hV : V = (vt * 4294967296 + vs) * p + V2) (hW : W = (top * 4294967296 + us) * p + W2) (hW2 : W2 < p) (hus : us < 4294967296) (hvt : 0 < vt)
    {q : Nat} (hq : q * V ≤ W) : q ≤ top / vt := by
  rw [Nat.le_div_iff_mul_le hvt]
  rcases Nat.lt_or_ge top (q * vt) with h | h
  · exfalso
    have h2 : (top * 4294967296 + us + 1) * p ≤ (q * vt * 4294967296) * p := Nat.mul_le_mul_right p (by omega)
    have h3 : q * V = (q * vt * 4294967296) * p + (q * vs * p + q * V2) := by
      rw [hV, Nat.mul_add, ← Nat.mul_assoc q _ p, Nat.mul_add, Nat.add_mul, ← Nat.mul_assoc q vt]
      omega
    have h4 : (top * 4294967296 + us + 1) * p = (top * 4294967296 + us) * p + p := by rw [Nat.add_mul _ 1 p, Nat.one_mul]
    omega
  · exact h

/-- A step down from a guess that is too great. -/
theorem kd_dec (hV : V = (vt * 4294967296 + vs) * p + V2) (hW : W = (top * 4294967296 + us) * p + W2) (hW2 : W2 < p)
    (hWV : W < V * 4294967296) {guess rest q : Nat} (hg : guess * vt + rest = top)
    (h : 4294967296 ≤ guess ∨ rest * 4294967296 + us < guess * vs) (hq : q * V ≤ W) (hle : q ≤ guess) : q < guess := by
  rcases h with h | h
  · have h1 : q * V < 4294967296 * V := by rw [Nat.mul_comm 4294967296 V]; omega
    have h2 := Nat.lt_of_mul_lt_mul_right h1
    omega
  · rcases Nat.lt_or_ge q guess with h1 | h1
    · exact h1
    · exfalso
      have e : q = guess := Nat.le_antisymm hle h1
      subst e
      have h2 : top * 4294967296 + us + 1 ≤ q * (vt * 4294967296 + vs) := by
        rw [← hg, Nat.mul_add, ← Nat.mul_assoc]; omega
      have h3 := Nat.mul_le_mul_right p h2
      have h4 : q * V = q * (vt * 4294967296 + vs) * p + q * V2 := by rw [hV, Nat.mul_add, ← Nat.mul_assoc]
      have h5 : (top * 4294967296 + us + 1) * p = (top * 4294967296 + us) * p + p := by rw [Nat.add_mul _ 1 p, Nat.one_mul]
      omega

/-- The way out by the rest: the guess is a word, and its product is not above the dividend. -/
theorem kd_out (hV : V = (vt * 4294967296 + vs) * p + V2) (hV2 : V2 < p) (hvs : vs < 4294967296) (hW : W = (top * 4294967296 + us) * p + W2)
    (hWV : W < V * 4294967296) {guess rest : Nat} (hg : guess * vt + rest = top) (hr : 4294967296 ≤ rest) : guess < 4294967296 ∧ guess * V ≤ W := by
  have hp : 0 < p := by omega
  have h0 : V < (vt + 1) * 4294967296 * p := by
    have : (vt * 4294967296 + vs + 1) * p ≤ (vt + 1) * 4294967296 * p := Nat.mul_le_mul_right p (by omega)
    have h5 : (vt * 4294967296 + vs + 1) * p = (vt * 4294967296 + vs) * p + p := by rw [Nat.add_mul _ 1 p, Nat.one_mul]
    omega
  have hlt : guess < 4294967296 := by
    have h1 : V * 4294967296 < (vt + 1) * 4294967296 * p * 4294967296 := Nat.mul_lt_mul_of_pos_right h0 (by omega)
    have h2 : top * 4294967296 * p ≤ W := by
      have : top * 4294967296 * p ≤ (top * 4294967296 + us) * p := Nat.mul_le_mul_right p (by omega)
      omega
    have h3 : top * 4294967296 * p < (vt + 1) * 4294967296 * 4294967296 * p := by
      have : (vt + 1) * 4294967296 * p * 4294967296 = (vt + 1) * 4294967296 * 4294967296 * p := Nat.mul_right_comm _ _ _
      omega
    have h4 : top * 4294967296 < (vt + 1) * 4294967296 * 4294967296 := Nat.lt_of_mul_lt_mul_right h3
    have h5 : guess * vt < vt * 4294967296 := by omega
    rw [Nat.mul_comm vt] at h5
    exact Nat.lt_of_mul_lt_mul_right h5
  refine ⟨hlt, ?_⟩
  have h1 : guess * V ≤ guess * ((vt * 4294967296 + vs) * p + p) := Nat.mul_le_mul_left _ (by omega)
  have h2 : guess * ((vt * 4294967296 + vs) * p + p) = (guess * vt * 4294967296 + guess * vs + guess) * p := by
    rw [Nat.mul_add, ← Nat.mul_assoc, Nat.mul_add, ← Nat.mul_assoc guess vt, ← Nat.add_mul]
  have h3 : guess * vs + guess ≤ 4294967296 * 4294967296 := by
    have : guess * (vs + 1) ≤ 4294967296 * 4294967296 := Nat.mul_le_mul (by omega) (by omega)
    rw [Nat.mul_add] at this; omega
  have h4 : (guess * vt * 4294967296 + guess * vs + guess) * p ≤ (top * 4294967296 + us) * p := Nat.mul_le_mul_right p (by omega)
  omega

/-- The way out by the test: the guess is the word or one more. -/
theorem kd_fit (hV : V = (vt * 4294967296 + vs) * p + V2) (hV2 : V2 < p) (hvt : 1 ≤ vt) (hW : W = (top * 4294967296 + us) * p + W2)
    {guess rest : Nat} (hg : guess * vt + rest = top) (hlt : guess < 4294967296) (h : guess * vs ≤ rest * 4294967296 + us) : guess * V < W + V := by
  have h1 : guess * V = (guess * vt * 4294967296 + guess * vs) * p + guess * V2 := by
    rw [hV, Nat.mul_add, ← Nat.mul_assoc, Nat.mul_add, ← Nat.mul_assoc guess vt]
  have h2 : (guess * vt * 4294967296 + guess * vs) * p ≤ (top * 4294967296 + us) * p := Nat.mul_le_mul_right p (by omega)
  have h3 : guess * V2 ≤ 4294967296 * V2 := Nat.mul_le_mul_right _ (by omega)
  have h4 : 4294967296 * p ≤ (vt * 4294967296 + vs) * p := Nat.mul_le_mul_right p (by omega)
  omega

end

/-- A guess that is the word or one more, and whether it was one too great. -/
theorem kd_word {V W guess q : Nat} (hle : q ≤ guess) (hq2 : W < (q + 1) * V) (hf : guess * V < W + V) : guess = q ∨ guess = q + 1 := by
  have h1 : (q + 1) * V = q * V + V := by rw [Nat.add_mul, Nat.one_mul]
  have h2 : guess * V < (q + 2) * V := by
    have : (q + 2) * V = q * V + V + V := by rw [Nat.add_mul]; omega
    omega
  have h3 := Nat.lt_of_mul_lt_mul_right h2
  omega

end Pl
end Go.Proofs.YtgpmlhpgdalheaaGreat
