/- Plain arithmetic of floating point: the word nearest to a number depends on the number alone; exact words. No program is in sight. Reading a float64's word, its fields, its product with a power of two, comparisons. No program is in sight. 'math.Ldexp' of a normal float64. The number of bits; the program's 'len'. Plain arithmetic of rounding a fraction: the place of its leading digit, its digits down to a place, what is left. No program is in sight. The reference's split of a fraction: its digits down to the format's place, the next digit, what is behind. The reference's float: the float64 of a number of at most 53 bits and a place. What rounding a fraction to a format gives; the reference's nearest. -/
import Derived.Test.YtgpmlhpgdalheaaGreatMem
import Ieee.Arith
import GoSem.Core.Float
import Derived.Laws.BitsLemmas
import Derived.Test.YtgpmlhpgdalheaaGreatLdexp
import Derived.Test.YtgpmlhpgdalheaaGreatRA
import Derived.Test.YtgpmlhpgdalheaaGreatDivA
import Derived.Test.YtgpmlhpgdalheaaGreatRF
import Derived.Deep.DeepCutAuto
import Derived.Test.YtgpmlhpgdalheaaGreatJI
import Derived.Test.YtgpmlhpgdalheaaGreatRS
namespace Go.Proofs.YtgpmlhpgdalheaaGreat
namespace Fl
open Ieee

theorem log2_mul_pow {m : Nat} (h : m ≠ 0) (k : Nat) : (m * 2 ^ k).log2 = m.log2 + k := by
  have hp : 0 < 2 ^ k := Nat.pow_pos (by omega)
  have h0 : m * 2 ^ k ≠ 0 := Nat.mul_ne_zero h (by omega)
  rw [Nat.log2_eq_iff h0]
  have h1 := Nat.log2_self_le h
  have h2 := Nat.lt_log2_self (n := m)
  refine ⟨?_, ?_⟩
  · rw [Nat.pow_add]; exact Nat.mul_le_mul_right _ h1
  · rw [show m.log2 + k + 1 = (m.log2 + 1) + k by omega, Nat.pow_add]; exact Nat.mul_lt_mul_of_pos_right h2 hp
theorem cut_zero (neg : Bool) (n : Nat) : Toward.even.cut neg n 0 = n := by
  simp [Toward.cut, Nat.mod_one]
theorem cut_scale (neg : Bool) {n : Nat} (h : n ≠ 0) (k d : Nat) : Toward.even.cut neg (n * 2 ^ k) (d + k) = Toward.even.cut neg n d := by
  have hp : 0 < 2 ^ k := Nat.pow_pos (by omega)
  have e1 : min (d + k) ((n * 2 ^ k).log2 + 2) = min d (n.log2 + 2) + k := by rw [log2_mul_pow h]; omega
  have e2 : (1 <<< min (d + k) ((n * 2 ^ k).log2 + 2)) = (1 <<< min d (n.log2 + 2)) * 2 ^ k := by
    rw [e1, Nat.shiftLeft_eq, Nat.shiftLeft_eq, Nat.pow_add, Nat.one_mul, Nat.one_mul]
  unfold Toward.cut
  simp only [e2]
  generalize (1 <<< min d (n.log2 + 2)) = g
  have e3 : n * 2 ^ k / (g * 2 ^ k) = n / g := Nat.mul_div_mul_right _ _ hp
  have e4 : n * 2 ^ k % (g * 2 ^ k) = n % g * 2 ^ k := Nat.mul_mod_mul_right _ _ _
  rw [e3, e4]
  have e5 : (g * 2 ^ k < 2 * (n % g * 2 ^ k)) ↔ (g < 2 * (n % g)) := by
    rw [← Nat.mul_assoc]; exact Nat.mul_lt_mul_right hp
  have e6 : (g * 2 ^ k == 2 * (n % g * 2 ^ k)) = (g == 2 * (n % g)) := by
    rw [Bool.eq_iff_iff, beq_iff_eq, beq_iff_eq, ← Nat.mul_assoc]
    exact Nat.mul_left_inj (by omega)
  rw [e6]
  congr 3
  rw [Bool.eq_iff_iff]; simp only [decide_eq_true_eq]; exact e5
/-- The nearest word depends on the number alone. -/
theorem nearest_shift (f : Format) (neg : Bool) {m : Nat} (h : m ≠ 0) (k : Nat) (e : Int) : f.nearest neg (m * 2 ^ k) e = f.nearest neg m (e + k) := by
  have h0 : m * 2 ^ k ≠ 0 := Nat.mul_ne_zero h (by have : 0 < 2 ^ k := Nat.pow_pos (by omega); omega)
  unfold Format.nearest
  rw [if_neg h0, if_neg h]
  have el : max (e + (m * 2 ^ k).log2 - f.fractionBits) f.leastPlace = max (e + k + m.log2 - f.fractionBits) f.leastPlace := by
    rw [log2_mul_pow h]; congr 1; omega
  simp only [el]
  generalize max (e + k + m.log2 - f.fractionBits) f.leastPlace = last
  congr 2
  congr 1
  -- the digits that are kept
  rcases Int.le_total last e with h1 | h1
  · -- nothing is dropped on either side
    have a1 : (last - e).toNat = 0 := by omega
    have a2 : (last - (e + k)).toNat = 0 := by omega
    rw [a1, a2, cut_zero, cut_zero, Nat.shiftLeft_eq, Nat.shiftLeft_eq]
    have a3 : (e + k - last).toNat = k + (e - last).toNat := by omega
    rw [a3, Nat.pow_add, Nat.mul_assoc]
  · rcases Int.le_total last (e + k) with h2 | h2
    · -- dropped on the left alone
      obtain ⟨d, hd⟩ : ∃ d : Nat, last = e + d := ⟨(last - e).toNat, by omega⟩
      have a1 : (last - e).toNat = 0 + d := by omega
      have a2 : (last - (e + k)).toNat = 0 := by omega
      have a4 : (e - last).toNat = 0 := by omega
      have a3 : (e + k - last).toNat = k - d := by omega
      rw [a1, a2, a3, a4, cut_zero, Nat.shiftLeft_eq, Nat.shiftLeft_eq, Nat.pow_zero, Nat.mul_one]
      have a5 : m * 2 ^ k = (m * 2 ^ (k - d)) * 2 ^ d := by rw [Nat.mul_assoc, ← Nat.pow_add]; congr 2; omega
      rw [a5, cut_scale neg (Nat.mul_ne_zero h (by have : 0 < 2 ^ (k - d) := Nat.pow_pos (by omega); omega)) d 0, cut_zero]
    · have a1 : (last - e).toNat = (last - (e + k)).toNat + k := by omega
      have a4 : (e - last).toNat = 0 := by omega
      have a3 : (e + k - last).toNat = 0 := by omega
      rw [a1, a3, a4, Nat.shiftLeft_eq, Nat.shiftLeft_eq, Nat.pow_zero, Nat.mul_one, Nat.mul_one, cut_scale neg h]
/-- Two numbers of one value have one nearest word. -/
theorem nearest_same (f : Format) (neg : Bool) {m n : Nat} (hm : m ≠ 0) (hn : n ≠ 0) {e i : Int} (b : Int) (hb : b ≤ e) (hi : b ≤ i) (h : m * 2 ^ (e - b).toNat = n * 2 ^ (i - b).toNat) : f.nearest neg m e = f.nearest neg n i := by
  have h1 := nearest_shift f neg hm (e - b).toNat b
  have h2 := nearest_shift f neg hn (i - b).toNat b
  rw [h, h2] at h1
  rw [show b + ((e - b).toNat : Int) = e by omega, show b + ((i - b).toNat : Int) = i by omega] at h1
  exact h1.symm

/-- The word of m 2^e among the float64s, m 2^e being above 0. -/
def fl (m : Nat) (e : Int) : Nat := double.nearest false m e
theorem dbl_least : double.leastPlace = -1074 := by rfl
theorem dbl_binade : double.binade = 4503599627370496 := by rfl
theorem dbl_inf : double.infRung = 9218868437227405312 := by rfl
theorem dbl_sign : double.signWeight = 9223372036854775808 := by rfl
theorem dbl_frac : double.fractionBits = 52 := by rfl
theorem word_pos (r : Nat) : double.word false r = r := by rfl
theorem word_neg (r : Nat) : double.word true r = 9223372036854775808 + r := by unfold Format.word; rw [if_pos rfl, dbl_sign]
theorem log2_52 {m : Nat} (h1 : 4503599627370496 ≤ m) (h2 : m < 9007199254740992) : m.log2 = 52 := by
  have h0 : m ≠ 0 := by omega
  rw [Nat.log2_eq_iff h0, show (2 : Nat) ^ 52 = 4503599627370496 by decide, show (2 : Nat) ^ (52 + 1) = 9007199254740992 by decide]
  exact ⟨h1, h2⟩
/-- A number with the leading digit in its place. -/
theorem fl_norm {m : Nat} {e : Int} (h1 : 4503599627370496 ≤ m) (h2 : m < 9007199254740992) (h3 : -1074 ≤ e) (h4 : e ≤ 971) : fl m e = (e + 1074).toNat * 4503599627370496 + m := by
  have h0 : m ≠ 0 := by omega
  have hl := log2_52 h1 h2
  unfold fl Format.nearest
  rw [if_neg h0]
  have el : max (e + m.log2 - double.fractionBits) double.leastPlace = e := by
    rw [hl, dbl_least, dbl_frac]; omega
  simp only [el]
  rw [word_pos, Int.sub_self, dbl_least, dbl_binade, dbl_inf, Int.toNat_zero, cut_zero, Nat.shiftLeft_zero, show e - -1074 = e + 1074 by omega]
  obtain ⟨t, ht⟩ : ∃ t, t = (e + 1074).toNat := ⟨_, rfl⟩
  have hb : t ≤ 2045 := by omega
  rw [← ht]
  clear ht h3 h4 el
  exact Nat.min_eq_left (by omega)
/-- A number at the least place. -/
theorem fl_low {m : Nat} (h0 : m ≠ 0) (h2 : m < 4503599627370496) : fl m (-1074) = m := by
  have hl : m.log2 < 52 := (Nat.log2_lt h0).2 (by rw [show (2 : Nat) ^ 52 = 4503599627370496 by decide]; exact h2)
  unfold fl Format.nearest
  rw [if_neg h0]
  have el : max ((-1074 : Int) + m.log2 - double.fractionBits) double.leastPlace = -1074 := by
    rw [dbl_least, dbl_frac]; omega
  simp only [el]
  rw [word_pos, Int.sub_self, dbl_least, dbl_binade, dbl_inf, Int.toNat_zero, cut_zero, Nat.shiftLeft_zero, Int.sub_self, Int.toNat_zero, Nat.zero_mul, Nat.zero_add]
  exact Nat.min_eq_left (by omega)
end Fl
end Go.Proofs.YtgpmlhpgdalheaaGreat

namespace Go.Proofs.YtgpmlhpgdalheaaGreat
namespace Fl
open Ieee
set_option linter.unusedVariables false
set_option linter.unusedSimpArgs false

theorem andNot_nat (a b : Nat) (ha : a < 18446744073709551616) (hb : b < 18446744073709551616) (c : Nat) (hc : c < 18446744073709551616) (h : ∀ i, i < 64 → c.testBit i = (a.testBit i && !b.testBit i)) : bits .andNot .u64 (a : Int) (b : Int) = (c : Int) := by
  have e : (BitVec.ofNat 64 a &&& ~~~(BitVec.ofNat 64 b)) = BitVec.ofNat 64 c := by
    apply BitVec.eq_of_getLsbD_eq
    intro i hi
    rw [BitVec.getLsbD_and, BitVec.getLsbD_not, BitVec.getLsbD_ofNat, BitVec.getLsbD_ofNat, BitVec.getLsbD_ofNat]
    simp only [hi, decide_true, Bool.true_and]
    exact (h i hi).symm
  show IntKind.u64.wrap (((BitVec.ofInt 64 (a : Int)) &&& ~~~(BitVec.ofInt 64 (b : Int))).toNat : Int) = _
  rw [BitVec.ofInt_natCast, BitVec.ofInt_natCast, e, BitVec.toNat_ofNat, Nat.mod_eq_of_lt (show c < 2 ^ 64 by rw [show (2 : Nat) ^ 64 = 18446744073709551616 by decide]; exact hc), IntKind.wrap_u64]
  omega
theorem and63 {a : Nat} (h : a < 9223372036854775808) : bits .andNot .u64 (a : Int) 9223372036854775808 = (a : Int) := by
  have := andNot_nat a 9223372036854775808 (by omega) (by decide) a (by omega) (fun i hi => by
    rw [show (9223372036854775808 : Nat) = 2 ^ 63 by decide, Nat.testBit_two_pow]
    by_cases h1 : 63 = i
    · subst h1
      rw [Nat.testBit_lt_two_pow (show a < 2 ^ 63 by rw [show (2 : Nat) ^ 63 = 9223372036854775808 by decide]; exact h)]; rfl
    · simp [h1])
  exact this
theorem andE {a : Nat} (h : a < 9223372036854775808) : bits .andNot .u64 (a : Int) 9218868437227405312 = ((a % 4503599627370496 : Nat) : Int) := by
  have := andNot_nat a 9218868437227405312 (by omega) (by decide) (a % 4503599627370496) (by omega) (fun i hi => by
    rw [show (9218868437227405312 : Nat) = (2 ^ 11 - 1) * 2 ^ 52 by decide, Nat.testBit_mul_two_pow, Nat.testBit_two_pow_sub_one, show (4503599627370496 : Nat) = 2 ^ 52 by decide, Nat.testBit_mod_two_pow]
    by_cases h1 : i < 52
    · have h2 : ¬ 52 ≤ i := by omega
      simp [h1, h2]
    · have h2 : 52 ≤ i := by omega
      by_cases h3 : i = 63
      · subst h3
        rw [Nat.testBit_lt_two_pow (show a < 2 ^ 63 by rw [show (2 : Nat) ^ 63 = 9223372036854775808 by decide]; exact h)]; simp
      · have h4 : i - 52 < 11 := by omega
        simp [h1, h2, h4])
  exact this
theorem wraps_i64 (n : Int) (h₀ : 0 ≤ n) (h₁ : n < 2 ^ 63) : IntKind.i64.wrap n = n := by
  rw [show (2 : Int) ^ 63 = 9223372036854775808 by decide] at h₁
  rw [IntKind.wrap_i64]; omega
theorem wraps_u64 (n : Int) (h₀ : 0 ≤ n) (h₁ : n < 2 ^ 64) : IntKind.u64.wrap n = n := by
  rw [show (2 : Int) ^ 64 = 18446744073709551616 by decide] at h₁
  rw [IntKind.wrap_u64]; omega
theorem mask11 {a : Nat} (h : a < 9223372036854775808) : bits .and .i64 (a : Int) 2047 = ((a % 2048 : Nat) : Int) := by
  have := bits_mask .i64 63 (by decide) wraps_i64 11 (by decide) (a : Int) (by omega) (by rw [show (2 : Int) ^ 63 = 9223372036854775808 by decide]; omega)
  rw [show ((2 : Int) ^ 11 - 1) = 2047 by decide, show (2 : Int) ^ 11 = 2048 by decide] at this
  rw [this]; omega
theorem join52 {f E : Nat} (hf : f < 4503599627370496) (hE : E < 4096) : bits .or .u64 (f : Int) ((E * 4503599627370496 : Nat) : Int) = ((E * 4503599627370496 + f : Nat) : Int) := by
  have h := bits_join .u64 64 (by decide) wraps_u64 52 ((E * 4503599627370496 : Nat) : Int) (f : Int) (by omega) (by rw [show (2 : Int) ^ 52 = 4503599627370496 by decide]; omega) (by rw [show (2 : Int) ^ 64 = 18446744073709551616 by decide]; omega) (by omega) (by rw [show (2 : Int) ^ 52 = 4503599627370496 by decide]; omega) (by rw [show (2 : Int) ^ 64 = 18446744073709551616 by decide]; omega)
  have c : bits .or .u64 (f : Int) ((E * 4503599627370496 : Nat) : Int) = bits .or .u64 ((E * 4503599627370496 : Nat) : Int) (f : Int) :=
    congrArg (fun z : BitVec 64 => IntKind.u64.wrap (z.toNat : Int)) (BitVec.or_comm (BitVec.ofInt 64 (f : Int)) (BitVec.ofInt 64 ((E * 4503599627370496 : Nat) : Int)))
  rw [c, h]; omega

/-- The word with the exponent field E and the fraction f. -/
theorem read_norm {E f : Nat} (h1 : 1 ≤ E) (h2 : E ≤ 2046) (hf : f < 4503599627370496) : double.read (E * 4503599627370496 + f) = .number false (4503599627370496 + f) ((E : Int) - 1075) := by
  have q : (E * 4503599627370496 + f) / 9223372036854775808 = 0 := Nat.div_eq_of_lt (by omega)
  have r : (E * 4503599627370496 + f) % 9223372036854775808 = E * 4503599627370496 + f := Nat.mod_eq_of_lt (by omega)
  have a : (E * 4503599627370496 + f) / 4503599627370496 = E := by omega
  have b : (E * 4503599627370496 + f) % 4503599627370496 = f := by omega
  unfold Format.read
  simp only [dbl_sign, dbl_binade, dbl_inf, dbl_least, q, r]
  rw [if_neg (by omega), if_pos (by omega), a, b]
  congr 1
  omega
theorem read_low {f : Nat} (hf : f < 4503599627370496) : double.read f = .number false f (-1074) := by
  have q : f / 9223372036854775808 = 0 := Nat.div_eq_of_lt (by omega)
  have r : f % 9223372036854775808 = f := Nat.mod_eq_of_lt (by omega)
  unfold Format.read
  simp only [dbl_sign, dbl_binade, dbl_inf, dbl_least, q, r]
  rw [if_pos hf]; rfl
/-- The product with a power of two. -/
theorem mul_pow {T E f : Nat} {t : Int} (hT : double.read T = .number false 4503599627370496 t) (h1 : 1 ≤ E) (h2 : E ≤ 2046) (hf : f < 4503599627370496) :
    double.mul T (E * 4503599627370496 + f) = some (fl (4503599627370496 + f) (t + 52 + ((E : Int) - 1075))) := by
  unfold Format.mul
  rw [hT, read_norm h1 h2 hf]
  show some (double.nearest false (4503599627370496 * (4503599627370496 + f)) (t + ((E : Int) - 1075))) = _
  rw [show 4503599627370496 * (4503599627370496 + f) = (4503599627370496 + f) * 2 ^ 52 by rw [show (2 : Nat) ^ 52 = 4503599627370496 by decide, Nat.mul_comm], nearest_shift double false (by omega)]
  unfold fl
  rw [show t + ((E : Int) - 1075) + (52 : Nat) = t + 52 + ((E : Int) - 1075) by omega]
theorem read_one : double.read 4607182418800017408 = .number false 4503599627370496 (-52) := read_norm (E := 1023) (f := 0) (by omega) (by omega) (by omega)
theorem read_tiny : double.read 4368491638549381120 = .number false 4503599627370496 (-105) := read_norm (E := 970) (f := 0) (by omega) (by omega) (by omega)
end Fl
end Go.Proofs.YtgpmlhpgdalheaaGreat

namespace Go.Proofs.YtgpmlhpgdalheaaGreat
open Go.RowKit Pl
set_option linter.unusedVariables false
set_option linter.unusedSimpArgs false
namespace Fl
open Ieee
theorem order_nums {X Y m n : Nat} {e i : Int} (hx : double.read X = .number false m e) (hy : double.read Y = .number false n i) : double.order X Y = some (compare ((m * 2 ^ (e - min e i).toNat : Nat) : Int) ((n * 2 ^ (i - min e i).toNat : Nat) : Int)) := by
  unfold Format.order Datum.order
  rw [hx, hy]
  simp only [signed, Nat.shiftLeft_eq, Bool.false_eq_true, if_false]
theorem order_self {X m : Nat} {e : Int} (hx : double.read X = .number false m e) : (FloatKind.f64.format.order X X != some Ordering.eq) = false := by
  show (double.order X X != some Ordering.eq) = false
  rw [order_nums hx hx]
  simp
theorem order_zero {X m : Nat} {e : Int} (hx : double.read X = .number false m e) (h : m ≠ 0) : (FloatKind.f64.format.order X 0 == some Ordering.eq) = false := by
  show (double.order X 0 == some Ordering.eq) = false
  rw [order_nums hx (read_low (f := 0) (by omega))]
  rw [Nat.zero_mul]
  have : 0 < m * 2 ^ (e - min e (-1074)).toNat := Nat.mul_pos (by omega) (Nat.pow_pos (by omega))
  generalize m * 2 ^ (e - min e (-1074)).toNat = a at *
  rw [beq_eq_false_iff_ne]
  intro h2
  injection h2 with h2
  have := Int.compare_eq_eq.1 h2
  omega
theorem order_max {X m : Nat} {e : Int} (hx : double.read X = .number false m e) (h : m < 9007199254740992) (he : e ≤ 971) : (FloatKind.f64.format.order X 9218868437227405311 == some Ordering.gt) = false := by
  show (double.order X 9218868437227405311 == some Ordering.gt) = false
  have hr : double.read 9218868437227405311 = .number false 9007199254740991 971 := read_norm (E := 2046) (f := 4503599627370495) (by omega) (by omega) (by omega)
  rw [order_nums hx hr, Int.min_eq_left he, Int.sub_self, Int.toNat_zero, Nat.pow_zero, Nat.mul_one]
  have h3 : 9007199254740991 ≤ 9007199254740991 * 2 ^ (971 - e).toNat := Nat.le_mul_of_pos_right _ (Nat.pow_pos (by omega))
  generalize 9007199254740991 * 2 ^ (971 - e).toNat = b at *
  rw [beq_eq_false_iff_ne]
  intro h2
  injection h2 with h2
  have := Int.compare_eq_gt.1 h2
  omega
theorem order_norm {X m : Nat} {e : Int} (hx : double.read X = .number false m e) (h : 4503599627370496 ≤ m) (he : -1074 ≤ e) : (FloatKind.f64.format.order X 4503599627370496 == some Ordering.lt) = false := by
  show (double.order X 4503599627370496 == some Ordering.lt) = false
  have hr : double.read 4503599627370496 = .number false 4503599627370496 (-1074) := read_norm (E := 1) (f := 0) (by omega) (by omega) (by omega)
  rw [order_nums hx hr, Int.min_eq_right he, Int.sub_self, Int.toNat_zero, Nat.pow_zero, Nat.mul_one]
  have h3 : m ≤ m * 2 ^ (e - -1074).toNat := Nat.le_mul_of_pos_right _ (Nat.pow_pos (by omega))
  generalize m * 2 ^ (e - -1074).toNat = b at *
  rw [beq_eq_false_iff_ne]
  intro h2
  injection h2 with h2
  have := Int.compare_eq_lt.1 h2
  omega
end Fl
open Fl Ieee

set_option maxRecDepth 100000 in
set_option maxHeartbeats 4000000 in
theorem ldexp_norm (X E0 f E1 : Nat) (k : Int) (w : World) (hX : X = E0 * 4503599627370496 + f) (h1 : 1 ≤ E0) (h2 : E0 ≤ 2046) (hf : f < 4503599627370496) (hE : k + E0 = E1) (h3 : 1 ≤ E1) (h4 : E1 ≤ 2046) :
    Calls Tryz.prog 184 #[.float .f64 X, .int .i64 k] w (fun e w' => e = .returned (.float .f64 (fl (4503599627370496 + f) ((E0 : Int) - 1075 + k))) ∧ w' = w) := by
  have hr := read_norm h1 h2 hf
  rw [← hX] at hr
  have hm := mul_pow read_one h3 h4 hf
  rw [show (-52 : Int) + 52 + ((E1 : Int) - 1075) = (E0 : Int) - 1075 + k by omega] at hm
  have HM : ∀ w, (binOp .mul 44 (.float .f64 4607182418800017408) (.float .f64 (E1 * 4503599627370496 + f))).run Tryz.prog w = .ok (.float .f64 (fl (4503599627370496 + f) ((E0 : Int) - 1075 + k))) w := fun w => run_float_arith w .mul _ .f64 _ _ _ hm
  have e0 := and63 (a := X) (by omega)
  have e1 := order_max hr (by omega) (by omega)
  have e2 := order_self hr
  have e3 := order_norm hr (by omega) (by omega)
  have e4 := order_zero hr (by omega)
  have e5 : bits .and .i64 (E0 : Int) 2047 = (E0 : Int) := by rw [mask11 (by omega), Nat.mod_eq_of_lt (by omega)]
  have e6 : bits .andNot .u64 (X : Int) 9218868437227405312 = (f : Int) := by rw [andE (by omega), hX]; omega
  have e7 : bits .or .u64 (f : Int) ((k + ((E0 : Int) - 1023) + 1023) * 4503599627370496) = ((E1 * 4503599627370496 + f : Nat) : Int) := by
    rw [show (k + ((E0 : Int) - 1023) + 1023) * 4503599627370496 = ((E1 * 4503599627370496 : Nat) : Int) by omega]; exact join52 hf (by omega)
  have e8 : (X : Int) / 4503599627370496 = (E0 : Int) := by omega
  have g0 : ∀ w, (callFunc 60 #[.int .u64 X]).run Tryz.prog w = .ok (.value (.float .f64 X)) w := fun w => f64from X w
  have g1 : ∀ w, (callFunc 60 #[.int .u64 ((E1 * 4503599627370496 + f : Nat) : Int)]).run Tryz.prog w = .ok (.value (.float .f64 (E1 * 4503599627370496 + f))) w := fun w => f64from _ w
  have g2 := f64bits
  have k1 : -3000 ≤ k := by omega
  have k2 : k ≤ 3000 := by omega
  generalize fl (4503599627370496 + f) ((E0 : Int) - 1075 + k) = R at *
  clear hX hr hm
  generalize E1 * 4503599627370496 + f = Y at *
  go_enter Tryz.func184, Tryz.ntmps184
  go_wp2
  go_ret
  exact ⟨rfl, rfl⟩
set_option maxRecDepth 100000 in
set_option maxHeartbeats 4000000 in
theorem ldexp_low (X E0 f E1 : Nat) (k : Int) (w : World) (hX : X = E0 * 4503599627370496 + f) (h1 : 1 ≤ E0) (h2 : E0 ≤ 2046) (hf : f < 4503599627370496) (hE : k + E0 + 53 = E1) (hk : k + E0 < 1) (h3 : 1 ≤ E1) (h4 : E1 ≤ 2046) :
    Calls Tryz.prog 184 #[.float .f64 X, .int .i64 k] w (fun e w' => e = .returned (.float .f64 (fl (4503599627370496 + f) ((E0 : Int) - 1075 + k))) ∧ w' = w) := by
  have hr := read_norm h1 h2 hf
  rw [← hX] at hr
  have hm := mul_pow read_tiny h3 h4 hf
  rw [show (-105 : Int) + 52 + ((E1 : Int) - 1075) = (E0 : Int) - 1075 + k by omega] at hm
  have HM : ∀ w, (binOp .mul 44 (.float .f64 4368491638549381120) (.float .f64 (E1 * 4503599627370496 + f))).run Tryz.prog w = .ok (.float .f64 (fl (4503599627370496 + f) ((E0 : Int) - 1075 + k))) w := fun w => run_float_arith w .mul _ .f64 _ _ _ hm
  have e0 := and63 (a := X) (by omega)
  have e1 := order_max hr (by omega) (by omega)
  have e2 := order_self hr
  have e3 := order_norm hr (by omega) (by omega)
  have e4 := order_zero hr (by omega)
  have e5 : bits .and .i64 (E0 : Int) 2047 = (E0 : Int) := by rw [mask11 (by omega), Nat.mod_eq_of_lt (by omega)]
  have e6 : bits .andNot .u64 (X : Int) 9218868437227405312 = (f : Int) := by rw [andE (by omega), hX]; omega
  have e7 : bits .or .u64 (f : Int) ((k + ((E0 : Int) - 1023) + 53 + 1023) * 4503599627370496) = ((E1 * 4503599627370496 + f : Nat) : Int) := by
    rw [show (k + ((E0 : Int) - 1023) + 53 + 1023) * 4503599627370496 = ((E1 * 4503599627370496 : Nat) : Int) by omega]; exact join52 hf (by omega)
  have e8 : (X : Int) / 4503599627370496 = (E0 : Int) := by omega
  have g0 : ∀ w, (callFunc 60 #[.int .u64 X]).run Tryz.prog w = .ok (.value (.float .f64 X)) w := fun w => f64from X w
  have g1 : ∀ w, (callFunc 60 #[.int .u64 ((E1 * 4503599627370496 + f : Nat) : Int)]).run Tryz.prog w = .ok (.value (.float .f64 (E1 * 4503599627370496 + f))) w := fun w => f64from _ w
  have g2 := f64bits
  have k1 : -3000 ≤ k := by omega
  have k2 : k ≤ 3000 := by omega
  generalize fl (4503599627370496 + f) ((E0 : Int) - 1075 + k) = R at *
  clear hX hr hm
  generalize E1 * 4503599627370496 + f = Y at *
  go_enter Tryz.func184, Tryz.ntmps184
  go_wp2
  go_ret
  exact ⟨rfl, rfl⟩
/-- 'Ldexp' where the product is no less than the least float. -/
theorem ldexp_any (X E0 f : Nat) (k : Int) (w : World) (hX : X = E0 * 4503599627370496 + f) (h1 : 1 ≤ E0) (h2 : E0 ≤ 2046) (hf : f < 4503599627370496) (h3 : -52 ≤ k + E0) (h4 : k + E0 ≤ 2046) :
    Calls Tryz.prog 184 #[.float .f64 X, .int .i64 k] w (fun e w' => e = .returned (.float .f64 (fl (4503599627370496 + f) ((E0 : Int) - 1075 + k))) ∧ w' = w) := by
  by_cases h : k + E0 < 1
  · exact ldexp_low X E0 f (k + E0 + 53).toNat k w hX h1 h2 hf (by omega) h (by omega) (by omega)
  · exact ldexp_norm X E0 f (k + E0).toNat k w hX h1 h2 hf (by omega) (by omega) (by omega)
theorem fl_form {m : Nat} (h0 : m ≠ 0) (h : m ≤ 9007199254740992) : ∃ f, f < 4503599627370496 ∧ ∀ e : Int, fl m e = fl (4503599627370496 + f) (e + m.log2 - 52) := by
  by_cases hm : m = 9007199254740992
  · refine ⟨0, by omega, fun e => ?_⟩
    have hl : m.log2 = 53 := by
      rw [hm, show (9007199254740992 : Nat) = 1 * 2 ^ 53 by decide, log2_mul_pow (by omega)]; rfl
    rw [hl, hm, show (9007199254740992 : Nat) = 4503599627370496 * 2 ^ 1 by decide]
    unfold fl
    rw [nearest_shift double false (by omega)]
    congr 1
    omega
  · have hl : m.log2 < 53 := (Nat.log2_lt h0).2 (by rw [show (2 : Nat) ^ 53 = 9007199254740992 by decide]; omega)
    have h1 := Nat.log2_self_le h0
    have h2 := Nat.lt_log2_self (n := m)
    obtain ⟨t, ht⟩ : ∃ t, t = 52 - m.log2 := ⟨_, rfl⟩
    have e1 : (2 : Nat) ^ m.log2 * 2 ^ t = 4503599627370496 := by rw [← Nat.pow_add, show m.log2 + t = 52 by omega]
    have e2 : (2 : Nat) ^ (m.log2 + 1) * 2 ^ t = 9007199254740992 := by rw [← Nat.pow_add, show m.log2 + 1 + t = 53 by omega]
    have b1 : 4503599627370496 ≤ m * 2 ^ t := by rw [← e1]; exact Nat.mul_le_mul_right _ h1
    have b2 : m * 2 ^ t < 9007199254740992 := by rw [← e2]; exact Nat.mul_lt_mul_of_pos_right h2 (Nat.pow_pos (by omega))
    refine ⟨m * 2 ^ t - 4503599627370496, by omega, fun e => ?_⟩
    rw [show 4503599627370496 + (m * 2 ^ t - 4503599627370496) = m * 2 ^ t by omega]
    unfold fl
    rw [nearest_shift double false h0]
    congr 1
    omega
/-- 'Ldexp(float64(m), e)'. -/
theorem ldexp_fl (m : Nat) (e : Int) (w : World) (h0 : m ≠ 0) (h : m ≤ 9007199254740992) (h1 : -1075 ≤ e + m.log2) (h2 : e + m.log2 ≤ 1023) :
    Calls Tryz.prog 184 #[.float .f64 (fl m 0), .int .i64 e] w (fun r w' => r = .returned (.float .f64 (fl m e)) ∧ w' = w) := by
  obtain ⟨f, hf, hfl⟩ := fl_form h0 h
  have hl : m.log2 ≤ 53 := by
    have : m.log2 < 54 := (Nat.log2_lt h0).2 (by rw [show (2 : Nat) ^ 54 = 18014398509481984 by decide]; omega)
    omega
  have hX : fl m 0 = (m.log2 + 1023) * 4503599627370496 + f := by
    rw [hfl 0, fl_norm (by omega) (by omega) (by omega) (by omega)]; omega
  have h3 := ldexp_any (fl m 0) (m.log2 + 1023) f e w hX (by omega) (by omega) hf (by omega) (by omega)
  rw [show (((m.log2 + 1023 : Nat) : Int) - 1075 + e) = e + m.log2 - 52 by omega, ← hfl e] at h3
  exact h3
end Go.Proofs.YtgpmlhpgdalheaaGreat

namespace Go.Proofs.YtgpmlhpgdalheaaGreat
open Go.RowKit Pl
set_option linter.unusedVariables false
set_option linter.unusedSimpArgs false

theorem nbits_log {y : Nat} (hy : y ≠ 0) : nbits y = y.log2 + 1 := by
  have ht := top_word hy
  have hw := wd_lt y (ln y - 1)
  have hl := wd_last hy
  unfold nbits
  rw [if_neg hy]
  generalize ln y - 1 = k at *
  obtain ⟨h1, h2, h3⟩ := Lib.bitLenAux_bounds 64 (wd y k) (Nat.lt_trans hw (by decide)) hl
  have e : Lib.bitLenAux 64 (wd y k) = Lib.bitLen (wd y k) := rfl
  rw [e] at h1 h2 h3
  generalize Lib.bitLen (wd y k) = b at *
  have hB : (4294967296 : Nat) ^ k = 2 ^ (32 * k) := by rw [Nat.pow_mul]
  have hp : 0 < 4294967296 ^ k := Nat.pow_pos (by omega)
  have a1 : wd y k * 4294967296 ^ k ≤ y := by rw [ht]; exact Nat.div_mul_le_self _ _
  have a2 : y < (wd y k + 1) * 4294967296 ^ k := by rw [ht, Nat.mul_comm]; exact Nat.lt_mul_div_succ _ hp
  have b1 : 2 ^ (b - 1) * 4294967296 ^ k ≤ y := Nat.le_trans (Nat.mul_le_mul_right _ h2) a1
  have b2 : y < 2 ^ b * 4294967296 ^ k := Nat.lt_of_lt_of_le a2 (Nat.mul_le_mul_right _ h3)
  rw [hB, ← Nat.pow_add] at b1 b2
  have : y.log2 = 32 * k + (b - 1) := by
    rw [Nat.log2_eq_iff hy]
    exact ⟨by rw [show 32 * k + (b - 1) = b - 1 + 32 * k by omega]; exact b1, by rw [show 32 * k + (b - 1) + 1 = b + 32 * k by omega]; exact b2⟩
  omega
set_option maxHeartbeats 1000000 in
/-- 'x.len()'. -/
theorem len_any (y : Nat) (A : Option Addr) (w : World) (hy : Nat32 w A y) (hby : ln y ≤ 35184372088832) :
    Calls Tryz.prog 183 #[.slice A (ln y) (ln y)] w fun e w' => e = .returned (.int .i64 (nbits y : Nat)) ∧ w' = w := by
  by_cases hy0 : y = 0
  · have H := Lib.hid (show nbits y = 0 by rw [hy0]; rfl)
    have t1 : ((ln y : Int) == 0) = true := by rw [hy0, ln_zero]; rfl
    clear hy0
    go_enter Tryz.func183, Tryz.ntmps183
    go_wp2_with fail
    go_ret
    exact ⟨by rw [H.out]; rfl, rfl⟩
  · have lx := ln_pos hy0
    have t1 : ((ln y : Int) == 0) = false := by simpa using fun e => by omega
    obtain ⟨b, rfl, hb, hc⟩ := hy hy0
    have hxk := hc (ln y - 1) (by omega)
    have HB := Lib.hid (show nbits y = 32 * (ln y - 1) + Lib.bitLen (wd y (ln y - 1)) by unfold nbits; rw [if_neg hy0])
    have bw := wd_lt y (ln y - 1)
    have HBL := Lib.hid (Lib.bitLen_le _ 32 (by omega) bw)
    have BW := Lib.hid bw
    clear hc hy0
    go_enter Tryz.func183, Tryz.ntmps183
    go_wp2_with fail
    refine (Tryz.bits_Len32 (wd y (ln y - 1) : Int) w (by omega) (by have := BW.out; omega)).mono ?_
    rintro e w1 ⟨rfl, rfl⟩
    rw [show ((wd y (ln y - 1) : Int).toNat) = wd y (ln y - 1) by omega]
    go_wp2_with fail
    go_ret
    exact ⟨ret_int (by rw [HB.out]; have := HBL.out; simp [wrap64]; omega), rfl⟩
end Go.Proofs.YtgpmlhpgdalheaaGreat

namespace Go.Proofs.YtgpmlhpgdalheaaGreat
namespace Fl
set_option linter.unusedVariables false
set_option linter.unusedSimpArgs false

/-- n/d is below 2^s. -/
def Bl (n d : Nat) (s : Int) : Prop := n * 2 ^ (-s).toNat < d * 2 ^ s.toNat
instance (n d : Nat) (s : Int) : Decidable (Bl n d s) := inferInstanceAs (Decidable (_ < _))
theorem bl_diff (n d x y : Nat) : n * 2 ^ x < d * 2 ^ y ↔ Bl n d ((y : Int) - x) := by
  unfold Bl
  rcases Nat.le_total x y with h | h
  · have e1 : (-((y : Int) - x)).toNat = 0 := by omega
    have e2 : ((y : Int) - x).toNat = y - x := by omega
    rw [e1, e2, Nat.pow_zero, Nat.mul_one]
    have e3 : d * 2 ^ y = d * 2 ^ (y - x) * 2 ^ x := by rw [Nat.mul_assoc, ← Nat.pow_add]; congr 2; omega
    rw [e3]; exact Nat.mul_lt_mul_right (Nat.pow_pos (by omega))
  · have e1 : (-((y : Int) - x)).toNat = x - y := by omega
    have e2 : ((y : Int) - x).toNat = 0 := by omega
    rw [e1, e2, Nat.pow_zero, Nat.mul_one]
    have e3 : n * 2 ^ x = n * 2 ^ (x - y) * 2 ^ y := by rw [Nat.mul_assoc, ← Nat.pow_add]; congr 2; omega
    rw [e3]; exact Nat.mul_lt_mul_right (Nat.pow_pos (by omega))
theorem bl_succ {n d : Nat} {s : Int} (h : Bl n d s) : Bl n d (s + 1) := by
  have h2 : n * 2 ^ (-s).toNat < d * 2 ^ (s.toNat + 1) := Nat.lt_of_lt_of_le h (Nat.mul_le_mul_left _ (Nat.pow_le_pow_right (by omega) (by omega)))
  have h3 := (bl_diff n d (-s).toNat (s.toNat + 1)).1 h2
  rwa [show ((s.toNat + 1 : Nat) : Int) - (-s).toNat = s + 1 by omega] at h3
theorem bl_mono {n d : Nat} {s : Int} (h : Bl n d s) (k : Nat) : Bl n d (s + k) := by
  induction k with
  | zero => simpa using h
  | succ k ih => have := bl_succ ih; rwa [show s + (k : Int) + 1 = s + ((k + 1 : Nat) : Int) by omega] at this
/-- The place of the leading digit of n/d. -/
def lgq (n d : Nat) : Int := if Bl n d ((n.log2 : Int) - d.log2) then (n.log2 : Int) - d.log2 - 1 else (n.log2 : Int) - d.log2
theorem bl_iff {n d : Nat} (hn : n ≠ 0) (hd : d ≠ 0) (s : Int) : Bl n d s ↔ lgq n d < s := by
  have n1 := Nat.log2_self_le hn
  have n2 := Nat.lt_log2_self (n := n)
  have d1 := Nat.log2_self_le hd
  have d2 := Nat.lt_log2_self (n := d)
  have top : Bl n d ((n.log2 : Int) - d.log2 + 1) := by
    have h : n * 2 ^ d.log2 < d * 2 ^ (n.log2 + 1) := by
      have a := Nat.mul_lt_mul_of_lt_of_le n2 d1 (by omega)
      rwa [Nat.mul_comm (2 ^ (n.log2 + 1)) d] at a
    have := (bl_diff n d d.log2 (n.log2 + 1)).1 h
    rwa [show ((n.log2 + 1 : Nat) : Int) - d.log2 = (n.log2 : Int) - d.log2 + 1 by omega] at this
  have low : ¬ Bl n d ((n.log2 : Int) - d.log2 - 1) := by
    have h : ¬ n * 2 ^ (d.log2 + 1) < d * 2 ^ n.log2 := by
      have a : d * 2 ^ n.log2 ≤ 2 ^ (d.log2 + 1) * n := Nat.mul_le_mul (Nat.le_of_lt d2) n1
      rw [Nat.mul_comm (2 ^ (d.log2 + 1)) n] at a
      omega
    intro c
    have := (bl_diff n d (d.log2 + 1) n.log2).2 (by rwa [show ((n.log2 : Nat) : Int) - ((d.log2 + 1 : Nat) : Int) = (n.log2 : Int) - d.log2 - 1 by omega])
    exact h this
  have up : ∀ {a b : Int}, Bl n d a → a ≤ b → Bl n d b := fun {a b} h k => by
    have := bl_mono h (b - a).toNat
    rwa [show a + ((b - a).toNat : Int) = b by omega] at this
  unfold lgq
  split
  · rename_i h
    constructor
    · intro k
      rcases (by omega : (n.log2 : Int) - d.log2 - 1 < s ∨ s ≤ (n.log2 : Int) - d.log2 - 1) with h1 | h1
      · exact h1
      · exact absurd (up k h1) low
    · intro k; exact up h (by omega)
  · rename_i h
    constructor
    · intro k
      rcases (by omega : (n.log2 : Int) - d.log2 < s ∨ s ≤ (n.log2 : Int) - d.log2) with h1 | h1
      · exact h1
      · exact absurd (up k h1) h
    · intro k; exact up top (by omega)
/-- The digits of n/d down to the place t, and what is left. -/
def un2 (d : Nat) (t : Int) : Nat := d * 2 ^ t.toNat
def qq (n d : Nat) (t : Int) : Nat := n * 2 ^ (-t).toNat / un2 d t
def rr (n d : Nat) (t : Int) : Nat := n * 2 ^ (-t).toNat % un2 d t
theorem un2_pos {d : Nat} (h : d ≠ 0) (t : Int) : 0 < un2 d t := Nat.mul_pos (by omega) (Nat.pow_pos (by omega))
theorem qq_lt {n d : Nat} (hn : n ≠ 0) (hd : d ≠ 0) (t : Int) (w : Nat) : qq n d t < 2 ^ w ↔ lgq n d < t + w := by
  unfold qq
  rw [Nat.div_lt_iff_lt_mul (un2_pos hd t)]
  rw [← bl_iff hn hd]
  have h := bl_diff n d (-t).toNat (w + t.toNat)
  rw [show ((w + t.toNat : Nat) : Int) - (-t).toNat = t + w by omega] at h
  rw [← h]
  unfold un2
  rw [show 2 ^ w * (d * 2 ^ t.toNat) = d * 2 ^ (w + t.toNat) by rw [Nat.pow_add, ← Nat.mul_assoc, Nat.mul_comm (2 ^ w) d, Nat.mul_assoc]]
theorem rr_lt {n d : Nat} (hd : d ≠ 0) (t : Int) : rr n d t < un2 d t := Nat.mod_lt _ (un2_pos hd t)
/-- One place up. -/
theorem step_up {n d : Nat} (hd : d ≠ 0) (t : Int) :
    qq n d (t + 1) = qq n d t / 2 ∧ ((qq n d t % 2 = 0 ∧ 2 * rr n d (t + 1) < un2 d (t + 1) ∧ (rr n d (t + 1) = 0 ↔ rr n d t = 0)) ∨ (qq n d t % 2 = 1 ∧ un2 d (t + 1) ≤ 2 * rr n d (t + 1) ∧ (2 * rr n d (t + 1) = un2 d (t + 1) ↔ rr n d t = 0))) := by
  have hU := un2_pos hd t
  have hr := rr_lt (n := n) hd t
  have hdm : un2 d t * qq n d t + rr n d t = n * 2 ^ (-t).toNat := Nat.div_add_mod _ _
  rcases (by omega : t < 0 ∨ 0 ≤ t) with h | h
  · -- the numerator is halved
    have eU : un2 d (t + 1) = un2 d t := by unfold un2; rw [show (t + 1).toNat = 0 by omega, show t.toNat = 0 by omega]
    have eV : n * 2 ^ (-t).toNat = 2 * (n * 2 ^ (-(t + 1)).toNat) := by
      rw [show (-t).toNat = (-(t + 1)).toNat + 1 by omega, Nat.pow_succ, ← Nat.mul_assoc, Nat.mul_comm]
    unfold qq rr at *
    rw [eU]
    generalize un2 d t = U at *
    rw [eV] at *
    generalize n * 2 ^ (-(t + 1)).toNat = V at *
    have hq : V / U = 2 * V / U / 2 := by rw [Nat.div_div_eq_div_mul, Nat.mul_comm U 2, Nat.mul_div_mul_left _ _ (by omega)]
    have hdm2 : U * (V / U) + V % U = V := Nat.div_add_mod _ _
    have hr2 : V % U < U := Nat.mod_lt _ hU
    refine ⟨hq, ?_⟩
    rw [hq] at hdm2
    generalize 2 * V / U = q at *
    generalize 2 * V % U = r at *
    generalize V % U = s at *
    have hq2 : q = 2 * (q / 2) + q % 2 := by omega
    have e3 : U * q = 2 * (U * (q / 2)) + U * (q % 2) := by
      conv => lhs; rw [hq2]
      rw [Nat.mul_add, Nat.mul_left_comm]
    rcases Nat.mod_two_eq_zero_or_one q with h0 | h0
    · rw [h0] at e3; left; refine ⟨h0, ?_, ?_⟩ <;> omega
    · rw [h0] at e3; right; refine ⟨h0, ?_, ?_⟩ <;> omega
  · -- the denominator is doubled
    have eU : un2 d (t + 1) = 2 * un2 d t := by unfold un2; rw [show (t + 1).toNat = t.toNat + 1 by omega, Nat.pow_succ, ← Nat.mul_assoc, Nat.mul_comm]
    have eV : n * 2 ^ (-(t + 1)).toNat = n * 2 ^ (-t).toNat := by rw [show (-(t + 1)).toNat = 0 by omega, show (-t).toNat = 0 by omega]
    unfold qq rr at *
    rw [eU, eV]
    generalize un2 d t = U at *
    generalize n * 2 ^ (-t).toNat = V at *
    have hq : V / (2 * U) = V / U / 2 := by rw [Nat.div_div_eq_div_mul, Nat.mul_comm U 2]
    have hdm2 : 2 * U * (V / (2 * U)) + V % (2 * U) = V := Nat.div_add_mod _ _
    refine ⟨hq, ?_⟩
    rw [hq] at hdm2
    generalize V / U = q at *
    generalize V % (2 * U) = s at *
    generalize V % U = r at *
    have hq2 : q = 2 * (q / 2) + q % 2 := by omega
    have e3 : U * q = 2 * U * (q / 2) + U * (q % 2) := by
      conv => lhs; rw [hq2]
      rw [Nat.mul_add, Nat.mul_left_comm, Nat.mul_assoc]
    rcases Nat.mod_two_eq_zero_or_one q with h0 | h0
    · rw [h0] at e3; left; refine ⟨h0, ?_, ?_⟩ <;> omega
    · rw [h0] at e3; right; refine ⟨h0, ?_, ?_⟩ <;> omega
/-- The place down to which a format of so many digits, with the least place low, keeps n/d. -/
def lst (size : Nat) (low : Int) (n d : Nat) : Int := max (lgq n d - size + 1) low
theorem lst_lt {size : Nat} {low : Int} {n d : Nat} (hn : n ≠ 0) (hd : d ≠ 0) : qq n d (lst size low n d) < 2 ^ size := by
  rw [qq_lt hn hd]; unfold lst; omega
end Fl
end Go.Proofs.YtgpmlhpgdalheaaGreat

namespace Go.Proofs.YtgpmlhpgdalheaaGreat
open Go.RowKit Pl Fl
set_option linter.unusedVariables false
set_option linter.unusedSimpArgs false

theorem and_one (n : Nat) (h : n < 4294967296) : bits .and .u32 (n : Int) 1 = ((n % 2 : Nat) : Int) := by
  have := bits_mask .u32 32 (by decide) (fun n h0 h1 => by rw [show (2 : Int) ^ 32 = 4294967296 by decide] at h1; rw [IntKind.wrap_u32]; omega) 1 (by decide) (n : Int) (by omega) (by rw [show (2 : Int) ^ 32 = 4294967296 by decide]; omega)
  rw [show ((2 : Int) ^ 1 - 1) = 1 by decide, show (2 : Int) ^ 1 = 2 by decide] at this
  rw [this]; omega
set_option maxHeartbeats 1000000 in
/-- 'NatBit(y, 0)'. -/
theorem rbit0 (y c : Nat) (A : Option Addr) (w : World) (hy : Nat32 w A y) :
    Calls Tryz.prog 146 #[.slice A (ln y) c, .int .i64 0] w fun e w' => e = .returned (.int .u32 ((y % 2 : Nat) : Int)) ∧ w' = w := by
  by_cases hy0 : y = 0
  · have H := Lib.hid (show y % 2 = 0 by rw [hy0])
    have t1 : decide ((ln y : Int) ≤ 0) = true := by rw [hy0, ln_zero]; rfl
    have t2 : ((0 : Int) ≥ (ln y : Int)) := by rw [hy0, ln_zero]; decide
    clear hy0
    go_enter Tryz.func146, Tryz.ntmps146
    go_wp2_with fail
    go_ret
    exact ⟨by rw [H.out]; rfl, rfl⟩
  · have lx := ln_pos hy0
    obtain ⟨b, rfl, hb, hc⟩ := hy hy0
    have hx0 := hc 0 lx
    have E : Hid (wd y 0 % 2 = y % 2) := Lib.hid (by rw [wd_0]; omega)
    have B := and_one (wd y 0) (wd_lt y 0)
    clear hc hy0
    go_enter Tryz.func146, Tryz.ntmps146
    go_wp2_with fail
    go_ret
    exact ⟨by rw [← E.out]; rfl, rfl⟩
theorem wrap_si {x : Int} (h1 : -4000000 ≤ x) (h2 : x ≤ 4000000) : wrap64 x = x := by simp [wrap64]; omega
theorem ln_pow2 (n : Nat) : ln (2 ^ n) ≤ n / 32 + 1 := ln_le (by
  rw [show (4294967296 : Nat) = 2 ^ 32 by decide, ← Nat.pow_mul]
  exact Nat.pow_lt_pow_right (by omega) (by omega))
theorem log2_ln {a : Nat} (h : a ≠ 0) : a.log2 < 32 * ln a := (Nat.log2_lt h).2 (by
  have := lt_of_ln (Nat.le_refl (ln a))
  rwa [show (4294967296 : Nat) = 2 ^ 32 by decide, ← Nat.pow_mul] at this)
theorem qq_pos {a d : Nat} {e : Int} (h : 0 ≤ e) : a / (d * 2 ^ e.toNat) = qq a d e ∧ a % (d * 2 ^ e.toNat) = rr a d e := by
  unfold qq rr un2; rw [show (-e).toNat = 0 by omega, Nat.pow_zero, Nat.mul_one]; exact ⟨rfl, rfl⟩
theorem qq_neg {a d : Nat} {e : Int} (h : e < 0) : a * 2 ^ (-e).toNat / d = qq a d e ∧ a * 2 ^ (-e).toNat % d = rr a d e := by
  unfold qq rr un2; rw [show e.toNat = 0 by omega, Nat.pow_zero, Nat.mul_one]; exact ⟨rfl, rfl⟩
theorem nbits_le {q width : Nat} : nbits q ≤ width ↔ q < 2 ^ width := by
  by_cases h : q = 0
  · subst h; constructor
    · intro _; exact Nat.pow_pos (by omega)
    · intro _; show nbits 0 ≤ _; unfold nbits; rw [if_pos rfl]; omega
  · rw [nbits_log h, ← Nat.log2_lt h]; omega
theorem lgq_near (a d : Nat) : lgq a d = (a.log2 : Int) - d.log2 ∨ lgq a d = (a.log2 : Int) - d.log2 - 1 := by unfold lgq; split <;> omega
theorem ln_pos_dec (n : Nat) : decide (0 < (ln n : Int)) = decide (n ≠ 0) := by
  by_cases h : n = 0
  · subst h; rw [ln_zero]; rfl
  · have := ln_pos h; rw [decide_eq_true h, decide_eq_true_eq]; omega
theorem rshl_int (x : Nat) (e : Int) (A : Option Addr) (c : Nat) (w : World) (hx : Nat32 w A x) (hbx : ln x ≤ 35184372088832) (h0 : 0 ≤ e) (hn : e.toNat ≤ 1099511627776) :
    Calls Tryz.prog 118 #[.slice A (ln x) c, .int .i64 e] w (RetNatC w (x * 2 ^ e.toNat)) := by
  have h := rshl_any x e.toNat A c w hx hbx hn
  rwa [show ((e.toNat : Nat) : Int) = e by omega] at h
theorem more_up {a d : Nat} (hd : d ≠ 0) (t : Int) : decide (rr a d t ≠ 0) = (decide (rr a d (t - 1) ≠ 0) || decide (qq a d (t - 1) % 2 = 1)) := by
  have h := (step_up (n := a) hd (t - 1)).2
  rw [show t - 1 + 1 = t by omega] at h
  have hU := un2_pos hd t
  rw [Bool.eq_iff_iff, Bool.or_eq_true, decide_eq_true_eq, decide_eq_true_eq, decide_eq_true_eq]
  rcases h with ⟨h1, h2, h3⟩ | ⟨h1, h2, h3⟩ <;> omega
/-- What 'split' hands back: T is the place. -/
def RetSplit (w : World) (a d : Nat) (T : Int) (e : Ending) (w' : World) : Prop := ∃ Q cQ, e = .returned (.tuple #[.slice Q (ln (qq a d T)) cQ, .int .i64 T, .int .u32 ((qq a d (T - 1) % 2 : Nat) : Int), .bool (decide (rr a d (T - 1) ≠ 0))]) ∧ Nat32 w' Q (qq a d T) ∧ Below w.heap.size w w'
set_option maxRecDepth 100000 in
set_option maxHeartbeats 4000000 in
/-- 'split'. -/
theorem rsplit_any (a d width : Nat) (low : Int) (A D : Option Addr) (cA cD : Nat) (w : World) (hx : Nat32 w A a) (hy : Nat32 w D d) (ha : a ≠ 0) (hd : d ≠ 0) (hbx : ln a ≤ 100000) (hby : ln d ≤ 100000) (hw : width ≤ 64) (hl1 : -2000 ≤ low) (hl2 : low ≤ 0) :
    Calls Tryz.prog 145 #[.slice A (ln a) cA, .slice D (ln d) cD, .int .i64 (width : Nat), .int .i64 low] w (RetSplit w a d (lst width low a d)) := by
  obtain ⟨T, hT⟩ : ∃ T, T = lst width low a d := ⟨_, rfl⟩
  rw [← hT]
  have hT2 : T = max (lgq a d - width + 1) low := hT
  have la := log2_ln ha
  have ld := log2_ln hd
  have lg := lgq_near a d
  obtain ⟨k, hk⟩ : ∃ k : Int, k = (a.log2 : Int) - d.log2 := ⟨_, rfl⟩
  have na := nbits_log ha
  have nd := nbits_log hd
  have hkb : -3200000 ≤ k ∧ k ≤ 3200000 := by omega
  have HK : Hid ((nbits a : Int) - nbits d = k) := Lib.hid (by omega)
  obtain ⟨E, hE⟩ : ∃ E : Int, E = max (k - width - 1) (low - 1) := ⟨_, rfl⟩
  have hE1 : -3300000 ≤ E ∧ E ≤ 3300000 ∧ E + 1 ≤ T ∧ low ≤ E + 1 ∧ T ≤ 3300000 := by omega
  have HE := Lib.hid hE1
  have HEE := Lib.hid hE
  have HB : Hid (nbits a ≤ 3200000 ∧ nbits d ≤ 3200000) := Lib.hid (by omega)
  have HA := Lib.hid ha
  have HD := Lib.hid hd
  have HT := Lib.hid hT2
  have HX := Lib.hid hbx
  have HY := Lib.hid hby
  have HKB := Lib.hid hkb
  have k1 := hkb.1
  have k2 := hkb.2
  have e1 := hE1.1
  have e2 := hE1.2.1
  have w2 : (width : Int) ≤ 64 := by omega
  clear hT hT2 la ld lg hk na nd hkb hE1 hE ha hd hbx hby hw
  go_enter Tryz.func145, Tryz.ntmps145
  go_wp2_with fail
  refine (rbits_any a cA A _ (by exact hx) (by have := HX.out; omega)).mono ?_
  rintro r w1 ⟨rfl, rfl⟩
  go_wp2_with fail
  refine (rbits_any d cD D _ (by exact hy) (by have := HY.out; omega)).mono ?_
  rintro r w1 ⟨rfl, rfl⟩
  have W0 : wrap64 ((nbits a : Int) - nbits d) = k := (wrap_si (by have := HB.out; omega) (by have := HB.out; omega)).trans HK.out
  go_upto_if 27 with fail
  go_cut [9, 12] (fun e kk wx => e = .int .i64 E ∧ kk = .int .i64 k ∧ wx = w)
  case first =>
    by_cases hlt : k - width - 1 < low - 1
    · have t1 : decide (k - (width : Int) - 1 < low - 1) = true := decide_eq_true hlt
      have t2 : decide (k - (width : Int) < low) = true := decide_eq_true (by omega)
      have t3 : k - (width : Int) < low := by omega
      have e3 : E = low - 1 := by have := HEE.out; omega
      clear hlt
      go_wp2_with fail
      go_meet
      exact ⟨by rw [e3], by first | rfl | rw [W0], rfl⟩
    · have t1 : decide (k - (width : Int) - 1 < low - 1) = false := decide_eq_false hlt
      have t2 : decide (k - (width : Int) < low) = false := decide_eq_false (by omega)
      have t3 : ¬ k - (width : Int) < low := by omega
      have e3 : E = k - width - 1 := by have := HEE.out; omega
      clear hlt
      go_wp2_with fail
      go_meet
      exact ⟨by rw [e3], by first | rfl | rw [W0], rfl⟩
  case rest =>
  obtain ⟨hc1, hc0, hc2⟩ := hcut
  subst hc1 hc0
  rw [hc2]
  clear hc2 wc W0
  go_upto_if 31 with fail
  go_cut [13, 14] (fun q r wx => ∃ Q cQ R cR, q = .slice Q (ln (qq a d E)) cQ ∧ r = .slice R (ln (rr a d E)) cR ∧ Nat32 wx Q (qq a d E) ∧ Below w.heap.size w wx)
  case first =>
    by_cases hE0 : 0 ≤ E
    · have t1 : decide (0 ≤ E) = true := decide_eq_true hE0
      have HQ := Lib.hid (qq_pos (a := a) (d := d) hE0)
      have HN : Hid (0 ≤ E ∧ E.toNat ≤ 3300000) := Lib.hid ⟨hE0, by omega⟩
      have HL : Hid (ln (d * 2 ^ E.toNat) ≤ 300000 ∧ d * 2 ^ E.toNat ≠ 0) := Lib.hid ⟨by have := ln_mul d (2 ^ E.toNat); have := ln_pow2 E.toNat; have := HY.out; omega, Nat.mul_ne_zero HD.out (by have : 0 < 2 ^ E.toNat := Nat.pow_pos (by omega); omega)⟩
      go_wp2_with fail
      refine (rshl_int d E D cD _ (by exact hy) (by have := HY.out; omega) HN.out.1 (by have := HN.out; omega)).mono ?_
      rintro r w2 ⟨S, cS, rfl, hS, hb2⟩
      replace hx := hx.to hb2
      go_wp2_with fail
      refine (rdiv_any a (d * 2 ^ E.toNat) A S cA cS _ (by exact hx) (by exact hS) (by have := HX.out; omega) (by have := HL.out; omega) HL.out.2).mono ?_
      rintro r w3 ⟨Q, cQ, R, cR, rfl, hQ, hR, hb3⟩
      go_wp2_with fail
      rw [HQ.out.1] at hQ ⊢
      rw [HQ.out.2]
      go_meet
      exact ⟨Q, cQ, R, cR, rfl, rfl, hQ, onto hb2 hb3⟩
    · have t1 : decide (0 ≤ E) = false := decide_eq_false hE0
      have h0 : E < 0 := by omega
      have HQ := Lib.hid (qq_neg (a := a) (d := d) h0)
      have HN : Hid (0 ≤ -E ∧ (-E).toNat ≤ 3300000) := Lib.hid ⟨by omega, by omega⟩
      have HL : Hid (ln (a * 2 ^ (-E).toNat) ≤ 300000) := Lib.hid (by have := ln_mul a (2 ^ (-E).toNat); have := ln_pow2 (-E).toNat; have := HX.out; omega)
      go_wp2_with fail
      refine (rshl_int a (-E) A cA _ (by exact hx) (by have := HX.out; omega) HN.out.1 (by have := HN.out; omega)).mono ?_
      rintro r w2 ⟨S, cS, rfl, hS, hb2⟩
      replace hy := hy.to hb2
      go_wp2_with fail
      refine (rdiv_any (a * 2 ^ (-E).toNat) d S D cS cD _ (by exact hS) (by exact hy) (by have := HL.out; omega) (by have := HY.out; omega) HD.out).mono ?_
      rintro r w3 ⟨Q, cQ, R, cR, rfl, hQ, hR, hb3⟩
      go_wp2_with fail
      rw [HQ.out.1] at hQ ⊢
      rw [HQ.out.2]
      go_meet
      exact ⟨Q, cQ, R, cR, rfl, rfl, hQ, onto hb2 hb3⟩
  case rest =>
  obtain ⟨Q, cQ, R, cR, hc1, hc2, hQ, hbw⟩ := hcut
  subst hc1 hc2
  have HBW := Lib.hid hbw
  clear hbw
  obtain ⟨W1, rfl⟩ : ∃ W1 : World, W1 = wc := ⟨_, rfl⟩
  have tm := ln_pos_dec (rr a d E)
  have HQA : Hid (∀ e : Int, E ≤ e → ln (qq a d e) ≤ 4000000) := Lib.hid (fun e he => by
    have h1 : ln (a * 2 ^ (-e).toNat) ≤ 300000 := by
      have := ln_mul a (2 ^ (-e).toNat); have := ln_pow2 (-e).toNat; have := HX.out; have := HE.out; omega
    exact Nat.le_trans (ln_mono (Nat.div_le_self _ _)) (Nat.le_trans h1 (by omega)))
  have HQL : Hid (ln (qq a d E) ≤ 35184372088832) := Lib.hid (Nat.le_trans (HQA.out E (Int.le_refl _)) (by omega))
  go_wp2_with fail
  refine (rbit0 (qq a d E) cQ Q _ (by exact hQ)).mono ?_
  rintro r w5 ⟨rfl, rfl⟩
  go_wp2_with fail
  refine (rshr_any (qq a d E) 1 Q cQ _ (by exact hQ) HQL.out (by omega)).mono ?_
  rintro r w6 ⟨Q1, cQ1, rfl, hQ1, hx1⟩
  replace HBW := Lib.hid (hstep HBW hx1)
  clear hx1 hQ tm
  have S1 := step_up (n := a) HD.out E
  rw [Nat.pow_one, ← S1.1] at hQ1 ⊢
  clear S1
  go_wp2_with fail
  go_loopg [9, 10, 11, 13] (T - (E + 1)).toNat (fun m e l b q wr => ∃ (t : Int) (Q' : Option Addr) (cQ' : Nat), e = .int .i64 t ∧ Hid (t + m = T ∧ E + 1 ≤ t) ∧ l = .int .u32 ((qq a d (t - 1) % 2 : Nat) : Int) ∧ b = .bool (decide (rr a d (t - 1) ≠ 0)) ∧ q = .slice Q' (ln (qq a d t)) cQ' ∧ Nat32 wr Q' (qq a d t) ∧ Below w.heap.size w wr)
  case atStart =>
    refine ⟨E + 1, Q1, cQ1, rfl, Lib.hid ⟨by have := HE.out; omega, Int.le_refl _⟩, ?_, ?_, rfl, hQ1, HBW.out⟩
    · rw [show E + 1 - 1 = E by omega]; rfl
    · rw [show E + 1 - 1 = E by omega]; congr 1
      by_cases h : rr a d E = 0
      · rw [h, ln_zero]; rfl
      · have := ln_pos h; rw [decide_eq_true h, decide_eq_true_eq]; exact this
  case round =>
    clear hQ1 HBW
    obtain ⟨t, Q', cQ', rfl, ht, rfl, rfl, rfl, hQ', hb⟩ := hrel
    have HB2 := Lib.hid hb
    clear hb
    have hnb : nbits (qq a d t) ≤ width ↔ t = T := by
      rw [nbits_le, qq_lt HA.out HD.out]
      have := ht.out; have := HT.out; have := HE.out; omega
    have HNB := Lib.hid hnb
    clear hnb
    go_wp2_with fail
    refine (rbits_any (qq a d t) cQ' Q' _ (by exact hQ') (by have := HQA.out t (by have := ht.out; omega); omega)).mono ?_
    rintro r w7 ⟨rfl, rfl⟩
    by_cases h9 : t = T
    · have t1 : decide ((width : Int) < (nbits (qq a d t) : Int)) = false := decide_eq_false (by have := HNB.out.2 h9; omega)
      have t2 : ¬ ((width : Int) < (nbits (qq a d t) : Int)) := by have := HNB.out.2 h9; omega
      subst h9
      go_wp2_with fail
      exact bodyPost_ret (v := .tuple #[.slice Q' (ln (qq a d t)) cQ', .int .i64 t, .int .u32 ((qq a d (t - 1) % 2 : Nat) : Int), .bool (decide (rr a d (t - 1) ≠ 0))]) (by simp [results, Tryz.results145, go_sem]) rfl ⟨Q', cQ', rfl, hQ', HB2.out⟩
    · have t1 : decide ((width : Int) < (nbits (qq a d t) : Int)) = true := decide_eq_true (by have := mt HNB.out.1 h9; omega)
      have t2 : (width : Int) < (nbits (qq a d t) : Int) := by have := mt HNB.out.1 h9; omega
      have HT9 : Hid (t + 1 ≤ T) := Lib.hid (by have := ht.out; omega)
      have MU := Lib.hid (more_up (a := a) HD.out t)
      obtain ⟨b0, hb0⟩ : ∃ b0, b0 = decide (rr a d (t - 1) ≠ 0) := ⟨_, rfl⟩
      obtain ⟨l0, hl0⟩ : ∃ l0, l0 = qq a d (t - 1) % 2 := ⟨_, rfl⟩
      rw [← hb0, ← hl0] at MU ⊢
      clear hb0 hl0 h9
      go_upto_region 13 with fail
      go_cut [11] (fun b wx => b = .bool (decide (rr a d t ≠ 0)) ∧ wx = wr)
      case first =>
        cases b0 with
        | true =>
          go_wp2_with fail
          go_meet
          exact ⟨by rw [MU.out]; rfl, rfl⟩
        | false =>
          have t3 : ((l0 : Int) == 1) = decide (l0 = 1) := by rw [Bool.eq_iff_iff, beq_iff_eq, decide_eq_true_eq]; omega
          go_wp2_with fail
          go_meet
          exact ⟨by rw [MU.out]; simp [t3], rfl⟩
      case rest =>
      obtain ⟨hc1, hc2⟩ := hcut
      subst hc1
      rw [hc2]
      clear hc2 wc
      go_wp2_with fail
      refine (rbit0 (qq a d t) cQ' Q' _ (by exact hQ')).mono ?_
      rintro r w8 ⟨rfl, rfl⟩
      go_wp2_with fail
      refine (rshr_any (qq a d t) 1 Q' cQ' _ (by exact hQ') (by have := HQA.out t (by have := ht.out; omega); omega) (by omega)).mono ?_
      rintro r w9 ⟨Q2, cQ2, rfl, hQ2, hx2⟩
      replace HB2 := Lib.hid (hstep HB2 hx2)
      clear hx2
      have S2 := (step_up (n := a) HD.out t).1
      rw [Nat.pow_one, ← S2] at hQ2 ⊢
      clear S2
      have tb1 : -3300000 ≤ t := by have := ht.out; have := HE.out; omega
      have tb2 : t ≤ 3300000 := by have := HT9.out; have := HE.out; omega
      go_wp2_with fail
      go_roundg (gk - 1)
      case measure => have := ht.out; have := HT9.out; omega
      case rel => exact ⟨t + 1, Q2, cQ2, rfl, Lib.hid (by have := ht.out; have := HT9.out; omega), by rw [show t + 1 - 1 = t by omega]; rfl, by rw [show t + 1 - 1 = t by omega]; first | rfl | (congr 1; exact (decide_not).symm) | (congr 1; simp), rfl, hQ2, HB2.out⟩
end Go.Proofs.YtgpmlhpgdalheaaGreat

namespace Go.Proofs.YtgpmlhpgdalheaaGreat
open Go.RowKit Pl Fl
set_option linter.unusedVariables false
set_option linter.unusedSimpArgs false

theorem mask52 {a : Nat} (h : a < 9007199254740992) : bits .and .u64 (a : Int) 4503599627370495 = ((a % 4503599627370496 : Nat) : Int) := by
  have := bits_mask .u64 64 (by decide) wraps_u64 52 (by decide) (a : Int) (by omega) (by rw [show (2 : Int) ^ 64 = 18446744073709551616 by decide]; omega)
  rw [show ((2 : Int) ^ 52 - 1) = 4503599627370495 by decide, show (2 : Int) ^ 52 = 4503599627370496 by decide] at this
  rw [this]; omega
theorem join52r {f E : Nat} (hf : f < 4503599627370496) (hE : E < 4096) : bits .or .u64 ((E * 4503599627370496 : Nat) : Int) (f : Int) = ((E * 4503599627370496 + f : Nat) : Int) := by
  have h := bits_join .u64 64 (by decide) wraps_u64 52 ((E * 4503599627370496 : Nat) : Int) (f : Int) (by omega) (by rw [show (2 : Int) ^ 52 = 4503599627370496 by decide]; omega) (by rw [show (2 : Int) ^ 64 = 18446744073709551616 by decide]; omega) (by omega) (by rw [show (2 : Int) ^ 52 = 4503599627370496 by decide]; omega) (by rw [show (2 : Int) ^ 64 = 18446744073709551616 by decide]; omega)
  rw [h]; omega
theorem join32 {v d : Nat} (hv : v < 2097152) (hd : d < 4294967296) : bits .or .u64 ((v : Int) * 4294967296) (d : Int) = ((v * 4294967296 + d : Nat) : Int) := by
  have h := bits_join .u64 64 (by decide) wraps_u64 32 ((v : Int) * 4294967296) (d : Int) (by omega) (by rw [show (2 : Int) ^ 32 = 4294967296 by decide]; omega) (by rw [show (2 : Int) ^ 64 = 18446744073709551616 by decide]; omega) (by omega) (by rw [show (2 : Int) ^ 32 = 4294967296 by decide]; omega) (by rw [show (2 : Int) ^ 64 = 18446744073709551616 by decide]; omega)
  rw [h]; omega
theorem fl_twice {x : Nat} (h : x ≠ 0) (e : Int) : fl (2 * x) (e - 1) = fl x e := by
  have := nearest_shift Ieee.double false h 1 (e - 1)
  unfold fl
  rw [show 2 * x = x * 2 ^ 1 by omega, this]; congr 1; omega
set_option maxRecDepth 100000 in
set_option maxHeartbeats 4000000 in
/-- 'float'. -/
theorem rfloat_pos (m : Nat) (e : Int) (A : Option Addr) (c : Nat) (w : World) (hx : Nat32 w A m) (h0 : m ≠ 0) (hm : m < 9007199254740992) (h1 : -1074 ≤ e) (h2 : e + m.log2 ≤ 1023) :
    Calls Tryz.prog 150 #[.slice A (ln m) c, .int .i64 e] w fun r w' => r = .returned (.float .f64 (fl m e)) ∧ w' = w := by
  obtain ⟨b, rfl, hb, hc⟩ := hx h0
  have hln : ln m ≤ 2 := ln_le (by rw [show (4294967296 : Nat) ^ 2 = 18446744073709551616 by decide]; omega)
  have lx := ln_pos h0
  have t0 : ((ln m : Int) == 0) = false := by rw [beq_eq_false_iff_ne]; omega
  have HC := Lib.hid hc
  have HM := Lib.hid hm
  have H0 := Lib.hid h0
  have H12 : Hid (-1074 ≤ e ∧ e + m.log2 ≤ 1023) := Lib.hid ⟨h1, h2⟩
  have HTOP : Hid (m / 4294967296 ^ ln m = 0) := Lib.hid (Nat.div_eq_of_lt (lt_ln m))
  have HL := Lib.hid hln
  clear hc hm h0 h1 h2 hx
  go_enter Tryz.func150, Tryz.ntmps150
  go_wp2_with fail
  go_loopg [5, 6] (ln m) (fun g x i wr => ∃ v : Nat, x = .int .u64 (v : Nat) ∧ Hid (v = m / 4294967296 ^ g ∧ g ≤ ln m) ∧ i = .int .i64 ((g : Int) - 1) ∧ wr = w)
  case atStart => exact ⟨0, rfl, Lib.hid ⟨HTOP.out.symm, Nat.le_refl _⟩, rfl, rfl⟩
  case round =>
    obtain ⟨v, rfl, hv, rfl, rfl⟩ := hrel
    by_cases hg : gk = 0
    · have e0 : v = m := by rw [hv.out.1, hg, Nat.pow_zero, Nat.div_one]
      subst e0
      have t1 : ¬ (0 : Int) ≤ (gk : Int) - 1 := by omega
      have t2 : decide ((0 : Int) ≤ (gk : Int) - 1) = false := decide_eq_false t1
      subst hg
      clear t0 lx hln hv
      go_wp2_with fail
      go_loopg [1, 5] (e + 1074).toNat (fun g ee x wq => ∃ (y : Nat) (e2 : Int), ee = .int .i64 e2 ∧ x = .int .u64 (y : Nat) ∧ Hid (y ≠ 0 ∧ y < 9007199254740992 ∧ e2 + 1074 = g ∧ e2 + y.log2 ≤ 1023 ∧ fl y e2 = fl v e) ∧ wq = wr)
      case atStart => exact ⟨v, e, rfl, rfl, Lib.hid ⟨H0.out, HM.out, by have := H12.out; omega, H12.out.2, rfl⟩, rfl⟩
      case round =>
        obtain ⟨y, e2, rfl, rfl, hy, rfl⟩ := hrel
        have hyb : y < 9007199254740992 := hy.out.2.1
        have e2a : -1074 ≤ e2 := by have := hy.out; omega
        have e2b : e2 ≤ 1023 := by have := hy.out; omega
        by_cases c1 : y < 4503599627370496
        · have c1' : (y : Int) < 4503599627370496 := by omega
          by_cases c2 : -1074 < e2
          · go_wp2_with fail
            go_roundg (gk - 1)
            case measure => have := hy.out; omega
            case rel => exact ⟨2 * y, e2 - 1, rfl, by congr 1; omega, Lib.hid ⟨by have := hy.out; omega, by omega, by have := hy.out; omega, by have h := log2_mul_pow hy.out.1 1; rw [show y * 2 ^ 1 = 2 * y by omega] at h; have := hy.out; omega, (fl_twice hy.out.1 e2).trans hy.out.2.2.2.2⟩, rfl⟩
          · have e3 : Hid (fl v e = y) := Lib.hid (by rw [← hy.out.2.2.2.2, show e2 = -1074 by omega]; exact fl_low hy.out.1 c1)
            have g0 : ∀ w, (callFunc 60 #[.int .u64 (y : Nat)]).run Tryz.prog w = .ok (.value (.float .f64 y)) w := fun w => f64from y w
            clear hy
            go_wp2_with fail
            go_ret
            exact ⟨by rw [e3.out]; rfl, rfl⟩
        · have c1' : ¬ (y : Int) < 4503599627370496 := by omega
          have hlog := log2_52 (by omega) hyb
          have e2c : e2 ≤ 971 := by have := hy.out; omega
          obtain ⟨E, hE⟩ : ∃ E : Nat, e2 + 1075 = E := ⟨(e2 + 1075).toNat, by omega⟩
          obtain ⟨f, hf⟩ : ∃ f : Nat, y = 4503599627370496 + f := ⟨y - 4503599627370496, by omega⟩
          have fb : f < 4503599627370496 := by omega
          have e3 : Hid (fl v e = E * 4503599627370496 + f) := Lib.hid (by rw [← hy.out.2.2.2.2, fl_norm (by omega) hyb e2a e2c]; omega)
          have o1 : bits .and .u64 (y : Int) 4503599627370495 = (f : Int) := by rw [mask52 hyb]; omega
          have o2 : bits .or .u64 ((e2 + 1075) * 4503599627370496) (f : Int) = ((E * 4503599627370496 + f : Nat) : Int) := by
            rw [hE, show (E : Int) * 4503599627370496 = ((E * 4503599627370496 : Nat) : Int) by omega]; exact join52r fb (by omega)
          obtain ⟨Y, hY⟩ : ∃ Y : Nat, Y = E * 4503599627370496 + f := ⟨_, rfl⟩
          rw [← hY] at o2 e3
          have g0 : ∀ w, (callFunc 60 #[.int .u64 (Y : Nat)]).run Tryz.prog w = .ok (.value (.float .f64 Y)) w := fun w => f64from Y w
          have z1 : (e2 + 1075) = (E : Int) := hE
          have z2 : ¬ (2046 : Int) < e2 + 1075 := by omega
          have z3 : (0 : Int) ≤ e2 + 1075 := by omega
          have z4 : IntKind.u64.wrap (e2 + 1075) = e2 + 1075 := by rw [IntKind.wrap_u64]; omega
          have z5 : IntKind.u64.wrap ((e2 + 1075) * 4503599627370496) = (e2 + 1075) * 4503599627370496 := by rw [IntKind.wrap_u64]; omega
          clear hy hE hf hlog hY c1 hyb fb z1
          go_wp2_with fail
          go_ret
          exact ⟨by rw [e3.out]; rfl, rfl⟩
    · obtain ⟨k, rfl⟩ : ∃ k, gk = k + 1 := ⟨gk - 1, by omega⟩
      have hk : k < ln m := by have := hv.out.2; omega
      have hwk := HC.out k hk
      have hvb : v < 2097152 := by
        rw [hv.out.1, Nat.pow_succ, Nat.mul_comm, ← Nat.div_div_eq_div_mul]
        exact Nat.lt_of_le_of_lt (Nat.div_le_self _ _) (by have := HM.out; omega)
      have hw1 := wd_lt m k
      have o1 := join32 hvb hw1
      have ev : Hid (v * 4294967296 + wd m k = m / 4294967296 ^ k) := Lib.hid (by
        rw [hv.out.1, Nat.pow_succ, ← Nat.div_div_eq_div_mul, show wd m k = m / 4294967296 ^ k % 4294967296 from rfl]
        have := Nat.div_add_mod (m / 4294967296 ^ k) 4294967296
        omega)
      obtain ⟨V, hV⟩ : ∃ V, V = v * 4294967296 + wd m k := ⟨_, rfl⟩
      rw [← hV] at o1 ev
      rw [show (((k + 1 : Nat) : Int) - 1) = (k : Int) by omega]
      clear hV hg
      go_wp2_with fail
      go_roundg k
      case measure => omega
      case rel => exact ⟨V, rfl, Lib.hid ⟨ev.out, by omega⟩, rfl, rfl⟩
end Go.Proofs.YtgpmlhpgdalheaaGreat

namespace Go.Proofs.YtgpmlhpgdalheaaGreat
open Go.RowKit Pl Fl
set_option linter.unusedVariables false
set_option linter.unusedSimpArgs false
namespace Fl
/-- The word of a/d rounded to a format of size digits, the least place low, the least power of two above it top; inc: the kept digits are counted up by one. -/
def rnd (size : Nat) (low top : Int) (a d : Nat) (inc : Bool) : Nat :=
  if qq a d (lst size low a d) + inc.toNat = 0 then 0
  else if top ≤ ((qq a d (lst size low a d) + inc.toNat).log2 : Int) + lst size low a d then 9218868437227405312
  else fl (qq a d (lst size low a d) + inc.toNat) (lst size low a d)
/-- To nearest, ties to even. -/
def incN (size : Nat) (low : Int) (a d : Nat) : Bool :=
  decide (un2 d (lst size low a d) < 2 * rr a d (lst size low a d)) || (decide (un2 d (lst size low a d) = 2 * rr a d (lst size low a d)) && decide (qq a d (lst size low a d) % 2 = 1))
/-- With a sign; 0 has none. -/
def sf (neg : Bool) (x : Nat) : Nat := if x = 0 then 0 else if neg = true then Op.negFloat .f64 x else x
theorem sf_ne {neg : Bool} {x : Nat} (h : x ≠ 0) : sf neg x = if neg = true then Op.negFloat .f64 x else x := if_neg h
theorem sf_true {x : Nat} (h : x ≠ 0) : sf true x = Op.negFloat .f64 x := (sf_ne h).trans (if_pos rfl)
theorem sf_false (x : Nat) : sf false x = x := by unfold sf; split <;> simp_all
theorem incN_eq {a d : Nat} (hd : d ≠ 0) (size : Nat) (low : Int) :
    incN size low a d = (decide (qq a d (lst size low a d - 1) % 2 = 1) && (decide (rr a d (lst size low a d - 1) ≠ 0) || decide (qq a d (lst size low a d) % 2 = 1))) := by
  unfold incN
  generalize lst size low a d = T
  have h := (step_up (n := a) hd (T - 1)).2
  rw [show T - 1 + 1 = T by omega] at h
  rw [Bool.eq_iff_iff]
  simp only [Bool.or_eq_true, Bool.and_eq_true, decide_eq_true_eq]
  rcases h with ⟨h1, h2, h3⟩ | ⟨h1, h2, h3⟩ <;> omega
theorem fl_ne {m : Nat} {e : Int} (h0 : m ≠ 0) (hm : m < 9007199254740992) (h1 : -1074 ≤ e) (h2 : e + m.log2 ≤ 1023) : fl m e ≠ 0 := by
  by_cases h : -1074 ≤ e + m.log2 - 52
  · obtain ⟨f, hf, hfl⟩ := fl_form h0 (by omega)
    rw [hfl, fl_norm (by omega) (by omega) h (by omega)]
    omega
  · have h3 := nearest_shift Ieee.double false h0 (e + 1074).toNat (-1074)
    rw [show (-1074 : Int) + ((e + 1074).toNat : Int) = e by omega] at h3
    have h4 : m * 2 ^ (e + 1074).toNat ≠ 0 := Nat.mul_ne_zero h0 (by have : 0 < 2 ^ (e + 1074).toNat := Nat.pow_pos (by omega); omega)
    have h5 : m * 2 ^ (e + 1074).toNat < 4503599627370496 := by
      have h6 := log2_mul_pow h0 (e + 1074).toNat
      have h7 : (m * 2 ^ (e + 1074).toNat).log2 < 52 := by omega
      have := (Nat.log2_lt h4).1 h7
      rwa [show (2 : Nat) ^ 52 = 4503599627370496 by decide] at this
    have h6 := fl_low h4 h5
    unfold fl at h6 ⊢
    rw [← h3, h6]; exact h4
theorem log2_half {v : Nat} {w : Nat} (h : v = 2 ^ (w + 1)) : v / 2 = 2 ^ w ∧ v.log2 = w + 1 ∧ (v / 2).log2 = w := by
  subst h
  have e : 2 ^ (w + 1) / 2 = 2 ^ w := by rw [Nat.pow_succ]; exact Nat.mul_div_cancel _ (by omega)
  rw [e, Nat.log2_two_pow, Nat.log2_two_pow]
  exact ⟨rfl, rfl, rfl⟩
end Fl
set_option maxHeartbeats 1000000 in
/-- 'math.Inf(1)'. -/
theorem inf_pos (w : World) : Calls Tryz.prog 69 #[.int .i64 1] w fun r w' => r = .returned (.float .f64 9218868437227405312) ∧ w' = w := by
  have g0 : ∀ w, (callFunc 60 #[.int .u64 9218868437227405312]).run Tryz.prog w = .ok (.value (.float .f64 9218868437227405312)) w := fun w => f64from 9218868437227405312 w
  go_enter Tryz.func69, Tryz.ntmps69
  go_wp2_with fail
  go_ret
  exact ⟨rfl, rfl⟩
theorem negf_run (X : Nat) (w : World) : (Op.unary .neg (.float .f64 X)).run Tryz.prog w = .ok (.float .f64 (Op.negFloat .f64 X)) w := rfl
theorem radd_one' (q : Nat) (A B : Option Addr) (c : Nat) (w : World) (hx : Nat32 w A q) (hy : Nat32 w B 1) (hb : ln q ≤ 1099511627776) :
    Calls Tryz.prog 147 #[.slice A (ln q) c, .slice B 1 1] w (RetNatC w (q + 1)) := by
  have h := rnatAdd_any q 1 A B c 1 w hx hy (by omega) (by rw [ln_one]; omega)
  rwa [ln_one] at h
set_option maxRecDepth 100000 in
set_option maxHeartbeats 4000000 in
/-- 'nearest'. -/
theorem rnearest_any (a : Int) (d width : Nat) (low top : Int) (A D : Option Addr) (cA cD : Nat) (w : World) (hx : Nat32 w A (ab a)) (hy : Nat32 w D d) (ha : a ≠ 0) (hd : d ≠ 0) (hbx : ln (ab a) ≤ 100000) (hby : ln d ≤ 100000) (hw0 : 1 ≤ width) (hw : width ≤ 53) (hl1 : -1074 ≤ low) (hl2 : low ≤ 0) (ht1 : 0 ≤ top) (ht2 : top ≤ 1024) :
    Calls Tryz.prog 90 #[.agg #[.bool (sn a), .slice A (ln (ab a)) cA], .slice D (ln d) cD, .int .i64 (width : Nat), .int .i64 low, .int .i64 top] w fun r w' => r = .returned (.float .f64 (sf (sn a) (rnd width low top (ab a) d (incN width low (ab a) d)))) ∧ Below w.heap.size w w' := by
  have ha2 : ab a ≠ 0 := by unfold ab; omega
  have lx := ln_pos ha2
  have t0 : ((ln (ab a) : Int) == 0) = false := by rw [beq_eq_false_iff_ne]; omega
  obtain ⟨T, hT⟩ : ∃ T, T = lst width low (ab a) d := ⟨_, rfl⟩
  have hTl : low ≤ T := by rw [hT]; unfold lst; omega
  have HTU : Hid (T ≤ 3300000) := Lib.hid (by have := log2_ln ha2; have := log2_ln hd; have := lgq_near (ab a) d; rw [hT]; unfold lst; omega)
  have hqb : qq (ab a) d T < 2 ^ width := by rw [hT]; exact lst_lt ha2 hd
  obtain ⟨inc, hinc⟩ : ∃ inc, inc = incN width low (ab a) d := ⟨_, rfl⟩
  have hIE := incN_eq (a := ab a) hd width low
  rw [← hT, ← hinc] at hIE
  have HSP := Lib.hid (rsplit_any (ab a) d width low A D cA cD)
  rw [← hT] at HSP
  obtain ⟨V, hV⟩ : ∃ V, V = rnd width low top (ab a) d inc := ⟨_, rfl⟩
  rw [← hinc, ← hV]
  have HVV : Hid (V = if qq (ab a) d T + inc.toNat = 0 then 0 else if top ≤ ((qq (ab a) d T + inc.toNat).log2 : Int) + T then 9218868437227405312 else fl (qq (ab a) d T + inc.toNat) T) := Lib.hid (by rw [hV]; unfold rnd; rw [← hT])
  have HA2 := Lib.hid ha2
  have HD := Lib.hid hd
  have HB := Lib.hid (And.intro hbx hby)
  have HWW := Lib.hid (And.intro hw0 hw)
  have HLL := Lib.hid (And.intro hl1 hl2)
  have HTT := Lib.hid (And.intro ht1 ht2)
  have HTL := Lib.hid hTl
  have HQB := Lib.hid hqb
  have HIE := Lib.hid hIE
  obtain ⟨sg, hsg⟩ : ∃ sg, sg = sn a := ⟨_, rfl⟩
  rw [← hsg]
  clear hsg
  clear ha2 lx hT hTl hqb hinc hIE hV ha hd hbx hby hw0 hw hl1 hl2 ht1 ht2
  go_enter Tryz.func90, Tryz.ntmps90
  go_wp2_with fail
  obtain ⟨W, hW⟩ : ∃ W : World, W = w.alloc (.cells #[.bool sg, .slice A (ln (ab a)) cA] 32) := ⟨_, rfl⟩
  have s0 : W.cell? ⟨w.heap.size, 0, none⟩ = some (.bool sg) := by subst hW; go_simp
  have s1 : W.cell? ⟨w.heap.size, 1, none⟩ = some (.slice A (ln (ab a)) cA) := by subst hW; go_simp
  have HW : Below w.heap.size w W := by subst hW; exact (Below.refl _ _).alloc (Nat.le_refl _) _
  have l0 : w.heap.size < W.heap.size := by subst hW; simp
  replace hx := hx.to HW
  replace hy := hy.to HW
  rw [← hW]
  clear hW
  replace HW := Lib.hid HW
  refine (HSP.out _ (by exact hx) (by exact hy) HA2.out HD.out HB.out.1 HB.out.2 (by have := HWW.out; omega) (by have := HLL.out; omega) HLL.out.2).mono ?_
  rintro r w1 ⟨Q, cQ, rfl, hQ, hb1⟩
  replace s0 := keepc hb1 s0 l0
  replace s1 := keepc hb1 s1 l0
  replace l0 := Nat.lt_of_lt_of_le l0 hb1.size
  replace HW := Lib.hid (hstep HW hb1)
  clear hb1 hx hy
  obtain ⟨lb, hlb⟩ : ∃ lb, lb = qq (ab a) d (T - 1) % 2 := ⟨_, rfl⟩
  obtain ⟨b0, hb0⟩ : ∃ b0, b0 = decide (rr (ab a) d (T - 1) ≠ 0) := ⟨_, rfl⟩
  obtain ⟨q0, hq0⟩ : ∃ q0, q0 = qq (ab a) d T := ⟨_, rfl⟩
  rw [← hlb, ← hb0, ← hq0] at HIE
  rw [← hlb, ← hb0, ← hq0]
  rw [← hq0] at hQ HVV HQB
  clear hlb hb0 hq0
  go_upto_region 4 with fail
  go_cut [40] (fun b wx => b = .bool inc ∧ wx = w1)
  case first =>
    by_cases hl : lb = 1
    · have t1 : ((lb : Int) == 1) = true := by rw [beq_iff_eq]; omega
      cases b0 with
      | true =>
        have e : inc = true := by rw [HIE.out, hl]; rfl
        clear hl
        go_wp2_with fail
        go_meet
        exact ⟨by rw [e], rfl⟩
      | false =>
        have e : inc = decide (q0 % 2 = 1) := by rw [HIE.out, hl]; rfl
        clear hl
        have t2 : (((q0 % 2 : Nat) : Int) == 1) = decide (q0 % 2 = 1) := by rw [Bool.eq_iff_iff, beq_iff_eq, decide_eq_true_eq]; omega
        go_wp2_with fail
        refine (rbit0 q0 cQ Q _ (by exact hQ)).mono ?_
        rintro r w2 ⟨rfl, rfl⟩
        go_wp2_with fail
        go_meet
        exact ⟨by rw [e, ← t2]; rfl, rfl⟩
    · have t1 : ((lb : Int) == 1) = false := by rw [beq_eq_false_iff_ne]; omega
      have e : inc = false := by rw [HIE.out, decide_eq_false hl]; rfl
      go_wp2_with fail
      go_meet
      exact ⟨by rw [e], rfl⟩
  case rest =>
  obtain ⟨hc1, hc2⟩ := hcut
  subst hc1
  rw [hc2]
  clear hc2 wc HIE
  have HQL : Hid (ln q0 ≤ 2) := Lib.hid (ln_le (by
    have h1 := HQB.out
    have h2 : 2 ^ width ≤ 2 ^ 53 := Nat.pow_le_pow_right (by omega) HWW.out.2
    rw [show (2 : Nat) ^ 53 = 9007199254740992 by decide] at h2
    rw [show (4294967296 : Nat) ^ 2 = 18446744073709551616 by decide]; omega))
  go_upto_if 40 with fail
  go_cut [11, 12] (fun mm ee wx => ∃ (M : Option Addr) (cM v : Nat) (t : Int), mm = .slice M (ln v) cM ∧ ee = .int .i64 t ∧ Hid ((v = 0 ↔ q0 + inc.toNat = 0) ∧ T ≤ t ∧ t ≤ T + 1 ∧ v < 2 ^ width ∧ (v ≠ 0 → (v.log2 : Int) + t = ((q0 + inc.toNat).log2 : Int) + T ∧ fl v t = fl (q0 + inc.toNat) T)) ∧ Nat32 wx M v ∧ Below w1.heap.size w1 wx)
  case first =>
    cases inc with
    | false =>
      go_wp2_with fail
      go_meet
      exact ⟨Q, cQ, q0, T, rfl, rfl, Lib.hid ⟨by simp, Int.le_refl _, by omega, HQB.out, fun _ => ⟨by simp, by simp⟩⟩, hQ, Below.refl _ _⟩
    | true =>
      go_wp2_with fail
      refine (radd_one' q0 Q _ cQ _ (by exact hQ.alloc _) (by exact nat1_new _ _) (by have := HQL.out; omega)).mono ?_
      rintro r w2 ⟨M, cM, rfl, hM, hb2⟩
      replace hb2 := unalloc hb2
      go_wp2_with fail
      refine (rbits_any (q0 + 1) cM M _ (by exact hM) (Nat.le_trans (ln_add q0 1) (by have := HQL.out; rw [ln_one]; omega))).mono ?_
      rintro r w3 ⟨rfl, rfl⟩
      by_cases hn : q0 + 1 < 2 ^ width
      · have t1 : ¬ ((width : Int) < (nbits (q0 + 1) : Int)) := by have := nbits_le.2 hn; omega
        have t2 : decide ((width : Int) < (nbits (q0 + 1) : Int)) = false := decide_eq_false t1
        have HN := Lib.hid hn
        clear hn
        go_wp2_with fail
        go_meet
        exact ⟨M, cM, q0 + 1, T, rfl, rfl, Lib.hid ⟨by simp, Int.le_refl _, by omega, HN.out, fun _ => ⟨rfl, rfl⟩⟩, hM, hb2⟩
      · have t1 : ((width : Int) < (nbits (q0 + 1) : Int)) := by have := mt nbits_le.1 hn; omega
        have t2 : decide ((width : Int) < (nbits (q0 + 1) : Int)) = true := decide_eq_true t1
        obtain ⟨w0, hw0⟩ : ∃ w0, width = w0 + 1 := ⟨width - 1, by have := HWW.out; omega⟩
        have HN : Hid (q0 + 1 = 2 ^ (w0 + 1) ∧ width = w0 + 1) := Lib.hid ⟨by have := HQB.out; rw [← hw0]; omega, hw0⟩
        have tb1 : -1074 ≤ T := by have := HTL.out; have := HLL.out; omega
        have tb2 : T ≤ 3300000 := HTU.out
        clear hn hw0
        go_wp2_with fail
        refine (rshr_any (q0 + 1) 1 M cM _ (by exact hM) (Nat.le_trans (ln_add q0 1) (by have := HQL.out; rw [ln_one]; omega)) (by omega)).mono ?_
        rintro r w4 ⟨M2, cM2, rfl, hM2, hb4⟩
        rw [Nat.pow_one] at hM2 ⊢
        go_wp2_with fail
        go_meet
        have L := log2_half HN.out.1
        exact ⟨M2, cM2, (q0 + 1) / 2, T + 1, rfl, rfl, Lib.hid ⟨⟨fun h => by have h0 : 0 < 2 ^ w0 := Nat.pow_pos (by omega); rw [L.1] at h; omega, fun h => absurd h (by simp)⟩, by omega, by omega, by rw [L.1, HN.out.2]; exact Nat.pow_lt_pow_right (by omega) (by omega), fun _ => ⟨by rw [L.2.2]; show _ = ((q0 + 1).log2 : Int) + T; rw [L.2.1]; omega, by
          show _ = fl (q0 + 1) T
          have h0 : (q0 + 1) / 2 ≠ 0 := by rw [L.1]; have : 0 < 2 ^ w0 := Nat.pow_pos (by omega); omega
          have h1 := fl_twice h0 (T + 1)
          rw [← h1, show T + 1 - 1 = T by omega]; congr 1
          rw [L.1, HN.out.1, Nat.pow_succ, Nat.mul_comm]⟩⟩, hM2, onto hb2 hb4⟩
  case rest =>
  obtain ⟨M, cM, v, t, hc1, hc2, hv, hM, hb2⟩ := hcut
  subst hc1 hc2
  obtain ⟨w5, rfl⟩ : ∃ X : World, X = wc := ⟨_, rfl⟩
  replace s0 := keepc hb2 s0 l0
  replace HW := Lib.hid (hstep HW hb2)
  clear hb2 s1 l0 hQ
  obtain ⟨mm, hmm⟩ : ∃ mm, mm = q0 + inc.toNat := ⟨_, rfl⟩
  rw [← hmm] at HVV hv
  clear hmm
  by_cases hv0 : v = 0
  · have E : Hid (V = 0) := Lib.hid (HVV.out.trans (if_pos (hv.out.1.1 hv0)))
    have t1 : ((ln v : Int) == 0) = true := by rw [hv0, ln_zero]; rfl
    clear hv0
    go_wp2_with fail
    go_ret
    exact ⟨by rw [E.out]; rfl, HW.out⟩
  · have t1 : ((ln v : Int) == 0) = false := by rw [beq_eq_false_iff_ne]; have := ln_pos hv0; omega
    have hm0 : ¬ mm = 0 := fun h => hv0 (hv.out.1.2 h)
    have HE := Lib.hid (HVV.out.trans (if_neg hm0))
    have HV2 := Lib.hid (hv.out.2.2.2.2 hv0)
    have hvb : v < 9007199254740992 := by
      have h1 := hv.out.2.2.2.1
      have h2 : 2 ^ width ≤ 2 ^ 53 := Nat.pow_le_pow_right (by omega) HWW.out.2
      rw [show (2 : Nat) ^ 53 = 9007199254740992 by decide] at h2; omega
    have HNB := Lib.hid (nbits_log hv0)
    have HV0 := Lib.hid hv0
    have HVB := Lib.hid hvb
    have HTT2 : Hid (-1074 ≤ t ∧ t ≤ 3300001) := Lib.hid (by have := hv.out; have := HTL.out; have := HLL.out; have := HTU.out; omega)
    clear hv0 hm0 hvb hv HVV
    go_wp2_with fail
    refine (inf_pos _).mono ?_
    rintro r w6 ⟨rfl, rfl⟩
    go_wp2_with fail
    refine (rbits_any v cM M _ (by exact hM) (Nat.le_trans (ln_le (k := 2) (by have := HVB.out; rw [show (4294967296 : Nat) ^ 2 = 18446744073709551616 by decide]; omega)) (by omega))).mono ?_
    rintro r w7 ⟨rfl, rfl⟩
    have tb1 := HTT2.out.1
    have tb2 := HTT2.out.2
    have tb3 : (nbits v : Int) ≤ 64 := by
      have h1 : v.log2 < 53 := (Nat.log2_lt HV0.out).2 (by rw [show (2 : Nat) ^ 53 = 9007199254740992 by decide]; exact HVB.out)
      have := HNB.out; omega
    by_cases htop : top ≤ (mm.log2 : Int) + T
    · have E : Hid (V = 9218868437227405312) := Lib.hid (HE.out.trans (if_pos htop))
      have t2 : ¬ (nbits v : Int) + t ≤ top := by have := HNB.out; have := HV2.out.1; omega
      have t3 : decide ((nbits v : Int) + t ≤ top) = false := decide_eq_false t2
      have E2 : Hid ((9218868437227405312 : Nat) ≠ 0) := Lib.hid (by decide)
      clear htop HE
      cases sg with
      | true =>
        have hn := negf_run (9218868437227405312)
        go_wp2_with fail
        go_ret
        exact ⟨by rw [E.out, sf_true E2.out]; rfl, HW.out⟩
      | false =>
        go_wp2_with fail
        go_ret
        exact ⟨by rw [E.out, sf_false]; rfl, HW.out⟩
    · have E : Hid (V = fl v t) := Lib.hid (HE.out.trans ((if_neg htop).trans HV2.out.2.symm))
      have t2 : (nbits v : Int) + t ≤ top := by have := HNB.out; have := HV2.out.1; omega
      have t3 : decide ((nbits v : Int) + t ≤ top) = true := decide_eq_true t2
      have HT3 : Hid (t + v.log2 ≤ 1023) := Lib.hid (by have := HNB.out; have := HTT.out; omega)
      clear htop HE
      go_wp2_with fail
      refine (rfloat_pos v t M cM _ (by exact hM) HV0.out HVB.out HTT2.out.1 HT3.out).mono ?_
      rintro r w8 ⟨rfl, rfl⟩
      have E2 := Lib.hid (fl_ne HV0.out HVB.out HTT2.out.1 HT3.out)
      cases sg with
      | true =>
        have hn := negf_run (fl v t)
        go_wp2_with fail
        go_ret
        exact ⟨by rw [E.out, sf_true E2.out]; rfl, HW.out⟩
      | false =>
        go_wp2_with fail
        go_ret
        exact ⟨by rw [E.out, sf_false]; rfl, HW.out⟩
end Go.Proofs.YtgpmlhpgdalheaaGreat
