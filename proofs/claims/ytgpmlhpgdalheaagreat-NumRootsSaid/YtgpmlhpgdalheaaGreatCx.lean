/- Plain arithmetic of complex numbers whose parts are fractions, and their one form (a + b i)/d in lowest terms. No program is in sight, no condition but those that stand at each theorem. -/
import Derived.Test.YtgpmlhpgdalheaaGreatNatB
namespace Go.Proofs.YtgpmlhpgdalheaaGreat
namespace Pl

/-- A complex number whose parts are fractions. -/
structure Cx where
  re : Rat
  im : Rat

namespace Cx
theorem ext' {x y : Cx} (h : x.re = y.re) (k : x.im = y.im) : x = y := by cases x; cases y; simp at h k; rw [h, k]
def zero : Cx := ⟨0, 0⟩
def ofInt (n : Int) : Cx := ⟨n, 0⟩
def add (x y : Cx) : Cx := ⟨x.re + y.re, x.im + y.im⟩
def neg (x : Cx) : Cx := ⟨-x.re, -x.im⟩
def sub (x y : Cx) : Cx := add x (neg y)
def mul (x y : Cx) : Cx := ⟨x.re * y.re - x.im * y.im, x.re * y.im + x.im * y.re⟩
def conj (x : Cx) : Cx := ⟨x.re, -x.im⟩
def nrm (x : Cx) : Rat := x.re * x.re + x.im * x.im
def norm (x : Cx) : Cx := ⟨nrm x, 0⟩
/-- The quotient; 0 where y is 0. -/
def div (x y : Cx) : Cx := ⟨(x.re * y.re + x.im * y.im) / nrm y, (x.im * y.re - x.re * y.im) / nrm y⟩
def reOf (x : Cx) : Cx := ⟨x.re, 0⟩
def imOf (x : Cx) : Cx := ⟨x.im, 0⟩
end Cx

/-- (a + b i)/d. -/
def fr (a b : Int) (d : Nat) : Cx := ⟨(a : Rat) / (d : Rat), (b : Rat) / (d : Rat)⟩

/-- a, b, d are the one form of z. -/
def Rep (a b : Int) (d : Nat) (z : Cx) : Prop := 0 < d ∧ Nat.gcd (Nat.gcd a.natAbs b.natAbs) d = 1 ∧ (a : Rat) = z.re * (d : Rat) ∧ (b : Rat) = z.im * (d : Rat)

theorem rat_ne {d : Nat} (h : 0 < d) : (d : Rat) ≠ 0 := by
  intro e
  have : (d : Rat) = ((0 : Nat) : Rat) := by rw [e]; rfl
  have := Rat.natCast_inj.1 this
  omega

theorem cross {a a' : Int} {d d' : Nat} {r : Rat} (h : (a : Rat) = r * (d : Rat)) (h' : (a' : Rat) = r * (d' : Rat)) : a * (d' : Int) = a' * (d : Int) := by
  apply Rat.intCast_inj.1
  rw [Rat.intCast_mul, Rat.intCast_mul, h, h', Rat.intCast_natCast, Rat.intCast_natCast]
  grind

theorem dvd_of_cross {a b a' b' : Int} {d d' : Nat} (h : a * (d' : Int) = a' * (d : Int)) (k : b * (d' : Int) = b' * (d : Int)) (hg : Nat.gcd (Nat.gcd a.natAbs b.natAbs) d = 1) : d ∣ d' := by
  have h1 : d ∣ a.natAbs * d' := by
    have : (a * (d' : Int)).natAbs = (a' * (d : Int)).natAbs := by rw [h]
    rw [Int.natAbs_mul, Int.natAbs_mul, Int.natAbs_natCast, Int.natAbs_natCast] at this
    rw [this]; exact Nat.dvd_mul_left _ _
  have h2 : d ∣ b.natAbs * d' := by
    have : (b * (d' : Int)).natAbs = (b' * (d : Int)).natAbs := by rw [k]
    rw [Int.natAbs_mul, Int.natAbs_mul, Int.natAbs_natCast, Int.natAbs_natCast] at this
    rw [this]; exact Nat.dvd_mul_left _ _
  have h3 : d ∣ d * d' := Nat.dvd_mul_right _ _
  have h4 := Nat.dvd_gcd (Nat.dvd_gcd h1 h2) h3
  rw [Nat.gcd_mul_right, Nat.gcd_mul_right, hg, Nat.one_mul] at h4
  exact h4

theorem Rep.uniq {a b a' b' : Int} {d d' : Nat} {z : Cx} (h : Rep a b d z) (k : Rep a' b' d' z) : a = a' ∧ b = b' ∧ d = d' := by
  obtain ⟨h1, h2, h3, h4⟩ := h
  obtain ⟨k1, k2, k3, k4⟩ := k
  have c1 := cross h3 k3
  have c2 := cross h4 k4
  have e : d = d' := Nat.dvd_antisymm (dvd_of_cross c1 c2 h2) (dvd_of_cross c1.symm c2.symm k2)
  subst e
  have hd : (d : Int) ≠ 0 := by omega
  exact ⟨Int.eq_of_mul_eq_mul_right hd c1, Int.eq_of_mul_eq_mul_right hd c2, rfl⟩

/-- The greatest common divisor by which a fraction is shortened. -/
def gg (a b : Int) (d : Nat) : Nat := Nat.gcd (Nat.gcd a.natAbs b.natAbs) d

theorem gg_pos (a b : Int) {d : Nat} (hd : 0 < d) : 0 < gg a b d := Nat.gcd_pos_of_pos_right _ hd
theorem gg_dvd (a b : Int) (d : Nat) : gg a b d ∣ a.natAbs ∧ gg a b d ∣ b.natAbs ∧ gg a b d ∣ d :=
  ⟨Nat.dvd_trans (Nat.gcd_dvd_left _ _) (Nat.gcd_dvd_left _ _), Nat.dvd_trans (Nat.gcd_dvd_left _ _) (Nat.gcd_dvd_right _ _), Nat.gcd_dvd_right _ _⟩

/-- An integer with the sign of a and the magnitude n. -/
def sg (a : Int) (n : Nat) : Int := if a < 0 then -(n : Int) else n

theorem sg_mul {a : Int} {g n : Nat} (h : a.natAbs = n * g) : sg a n * (g : Int) = a := by
  unfold sg
  split
  · rw [Int.neg_mul]
    have : ((n * g : Nat) : Int) = (n : Int) * (g : Int) := Int.natCast_mul _ _
    omega
  · have : ((n * g : Nat) : Int) = (n : Int) * (g : Int) := Int.natCast_mul _ _
    omega
theorem sg_abs (a : Int) (n : Nat) : (sg a n).natAbs = n := by unfold sg; split <;> omega

theorem rat_div {a' : Int} {d' g : Nat} (hd : 0 < d') (hg : 0 < g) : ((a' * (g : Int) : Int) : Rat) / ((d' * g : Nat) : Rat) = (a' : Rat) / (d' : Rat) := by
  rw [Rat.intCast_mul, Rat.natCast_mul, Rat.intCast_natCast]
  have h1 := rat_ne hd
  have h2 := rat_ne hg
  grind

/-- A fraction shortened is the one form. -/
theorem rep_fr (a b : Int) {d : Nat} (hd : 0 < d) : Rep (sg a (a.natAbs / gg a b d)) (sg b (b.natAbs / gg a b d)) (d / gg a b d) (fr a b d) := by
  obtain ⟨⟨x, hx⟩, ⟨y, hy⟩, ⟨t, ht⟩⟩ := gg_dvd a b d
  have hg := gg_pos a b hd
  have e1 : gg a b d = Nat.gcd (Nat.gcd a.natAbs b.natAbs) d := rfl
  generalize gg a b d = g at *
  have ea : a.natAbs / g = x := by rw [hx, Nat.mul_div_cancel_left _ hg]
  have eb : b.natAbs / g = y := by rw [hy, Nat.mul_div_cancel_left _ hg]
  have ed : d / g = t := by rw [ht, Nat.mul_div_cancel_left _ hg]
  have ht0 : 0 < t := by
    rcases Nat.eq_zero_or_pos t with h | h
    · subst h; simp at ht; omega
    · exact h
  have hsa := sg_mul (a := a) (g := g) (n := x) (by rw [hx, Nat.mul_comm])
  have hsb := sg_mul (a := b) (g := g) (n := y) (by rw [hy, Nat.mul_comm])
  rw [ea, eb, ed]
  refine ⟨ht0, ?_, ?_, ?_⟩
  · rw [sg_abs, sg_abs]
    rw [hx, hy, ht, Nat.gcd_mul_left, Nat.gcd_mul_left] at e1
    have : g * Nat.gcd (Nat.gcd x y) t = g * 1 := by omega
    exact Nat.eq_of_mul_eq_mul_left hg this
  · have h1 := rat_div (a' := sg a x) ht0 hg
    rw [hsa, Nat.mul_comm t g, ← ht] at h1
    have h2 := rat_ne ht0
    unfold fr
    simp only [h1]
    grind
  · have h1 := rat_div (a' := sg b y) ht0 hg
    rw [hsb, Nat.mul_comm t g, ← ht] at h1
    have h2 := rat_ne ht0
    unfold fr
    simp only [h1]
    grind

theorem fr_mk (z : Cx) : fr (z.re.num * (z.im.den : Int)) (z.im.num * (z.re.den : Int)) (z.re.den * z.im.den) = z := by
  have h1 := rat_ne (Nat.pos_of_ne_zero z.re.den_nz)
  have h2 := rat_ne (Nat.pos_of_ne_zero z.im.den_nz)
  have h3 : z.re = (z.re.num : Rat) / (z.re.den : Rat) := by
    have := Rat.num_divInt_den z.re; rw [Rat.divInt_eq_div, Rat.intCast_natCast] at this; exact this.symm
  have h4 : z.im = (z.im.num : Rat) / (z.im.den : Rat) := by
    have := Rat.num_divInt_den z.im; rw [Rat.divInt_eq_div, Rat.intCast_natCast] at this; exact this.symm
  unfold fr
  rw [Rat.intCast_mul, Rat.intCast_mul, Rat.natCast_mul, Rat.intCast_natCast, Rat.intCast_natCast]
  apply Cx.ext'
  · simp only
    conv => rhs; rw [h3]
    grind
  · simp only
    conv => rhs; rw [h4]
    grind

/-- The numerators and the denominator of the one form. -/
def na (z : Cx) : Int := sg (z.re.num * (z.im.den : Int)) ((z.re.num * (z.im.den : Int)).natAbs / gg (z.re.num * (z.im.den : Int)) (z.im.num * (z.re.den : Int)) (z.re.den * z.im.den))
def nb (z : Cx) : Int := sg (z.im.num * (z.re.den : Int)) ((z.im.num * (z.re.den : Int)).natAbs / gg (z.re.num * (z.im.den : Int)) (z.im.num * (z.re.den : Int)) (z.re.den * z.im.den))
def nd (z : Cx) : Nat := (z.re.den * z.im.den) / gg (z.re.num * (z.im.den : Int)) (z.im.num * (z.re.den : Int)) (z.re.den * z.im.den)

theorem rep (z : Cx) : Rep (na z) (nb z) (nd z) z := by
  have h := rep_fr (z.re.num * (z.im.den : Int)) (z.im.num * (z.re.den : Int)) (d := z.re.den * z.im.den) (Nat.mul_pos (Nat.pos_of_ne_zero z.re.den_nz) (Nat.pos_of_ne_zero z.im.den_nz))
  rw [fr_mk] at h
  exact h

theorem nd_pos (z : Cx) : 0 < nd z := (rep z).1
theorem na_eq (z : Cx) : (na z : Rat) = z.re * (nd z : Rat) := (rep z).2.2.1
theorem nb_eq (z : Cx) : (nb z : Rat) = z.im * (nd z : Rat) := (rep z).2.2.2
theorem nd_ne (z : Cx) : (nd z : Rat) ≠ 0 := rat_ne (nd_pos z)
theorem of_rep {a b : Int} {d : Nat} {z : Cx} (h : Rep a b d z) : na z = a ∧ nb z = b ∧ nd z = d := (rep z).uniq h
theorem fr_self (z : Cx) : fr (na z) (nb z) (nd z) = z := by
  have h1 := na_eq z
  have h2 := nb_eq z
  have h3 := nd_ne z
  unfold fr
  apply Cx.ext' <;> simp only <;> grind

/-- What 'over' makes of a fraction. -/
theorem fr_form (a b : Int) {d : Nat} (hd : 0 < d) : na (fr a b d) = sg a (a.natAbs / gg a b d) ∧ nb (fr a b d) = sg b (b.natAbs / gg a b d) ∧ nd (fr a b d) = d / gg a b d := of_rep (rep_fr a b hd)

theorem cx_inj {x y : Cx} (h : na x = na y) (k : nb x = nb y) (l : nd x = nd y) : x = y := by
  rw [← fr_self x, ← fr_self y, h, k, l]

/-- When two fractions are one number. -/
theorem fr_eq {a b : Int} {d : Nat} (hd : 0 < d) {z : Cx} (h : (a : Rat) = z.re * (d : Rat)) (k : (b : Rat) = z.im * (d : Rat)) : fr a b d = z := by
  have := rat_ne hd
  unfold fr
  apply Cx.ext' <;> simp only <;> grind

theorem add_fr (x y : Cx) : fr (na x * (nd y : Int) + na y * (nd x : Int)) (nb x * (nd y : Int) + nb y * (nd x : Int)) (nd x * nd y) = x.add y := by
  apply fr_eq (Nat.mul_pos (nd_pos x) (nd_pos y))
  · rw [Rat.intCast_add, Rat.intCast_mul, Rat.intCast_mul, Rat.natCast_mul, na_eq, na_eq, Rat.intCast_natCast, Rat.intCast_natCast]
    simp only [Cx.add]; grind
  · rw [Rat.intCast_add, Rat.intCast_mul, Rat.intCast_mul, Rat.natCast_mul, nb_eq, nb_eq, Rat.intCast_natCast, Rat.intCast_natCast]
    simp only [Cx.add]; grind

theorem mul_fr (x y : Cx) : fr (na x * na y - nb x * nb y) (na x * nb y + nb x * na y) (nd x * nd y) = x.mul y := by
  apply fr_eq (Nat.mul_pos (nd_pos x) (nd_pos y))
  · rw [Rat.intCast_sub, Rat.intCast_mul, Rat.intCast_mul, Rat.natCast_mul, na_eq, na_eq, nb_eq, nb_eq]
    simp only [Cx.mul]; grind
  · rw [Rat.intCast_add, Rat.intCast_mul, Rat.intCast_mul, Rat.natCast_mul, na_eq, na_eq, nb_eq, nb_eq]
    simp only [Cx.mul]; grind

theorem neg_form (x : Cx) : na x.neg = -na x ∧ nb x.neg = -nb x ∧ nd x.neg = nd x := by
  apply of_rep
  obtain ⟨h1, h2, h3, h4⟩ := rep x
  refine ⟨h1, by rw [Int.natAbs_neg, Int.natAbs_neg]; exact h2, ?_, ?_⟩
  · rw [Rat.intCast_neg, h3]; simp only [Cx.neg]; grind
  · rw [Rat.intCast_neg, h4]; simp only [Cx.neg]; grind

theorem conj_form (x : Cx) : na x.conj = na x ∧ nb x.conj = -nb x ∧ nd x.conj = nd x := by
  apply of_rep
  obtain ⟨h1, h2, h3, h4⟩ := rep x
  refine ⟨h1, by rw [Int.natAbs_neg]; exact h2, ?_, ?_⟩
  · rw [h3]; simp only [Cx.conj]
  · rw [Rat.intCast_neg, h4]; simp only [Cx.conj]; grind

theorem re_fr (x : Cx) : fr (na x) 0 (nd x) = x.reOf := fr_eq (nd_pos x) (na_eq x) (by simp only [Cx.reOf]; grind)
theorem im_fr (x : Cx) : fr (nb x) 0 (nd x) = x.imOf := fr_eq (nd_pos x) (nb_eq x) (by simp only [Cx.imOf]; grind)

theorem norm_fr (x : Cx) : fr (na x * na x + nb x * nb x) 0 (nd x * nd x) = x.norm := by
  apply fr_eq (Nat.mul_pos (nd_pos x) (nd_pos x))
  · rw [Rat.intCast_add, Rat.intCast_mul, Rat.intCast_mul, Rat.natCast_mul, na_eq, nb_eq]
    simp only [Cx.norm, Cx.nrm]; grind
  · simp only [Cx.norm]; grind

theorem ofInt_form (n : Int) : na (Cx.ofInt n) = n ∧ nb (Cx.ofInt n) = 0 ∧ nd (Cx.ofInt n) = 1 := by
  apply of_rep
  refine ⟨by omega, by simp, ?_, ?_⟩
  · simp only [Cx.ofInt]
    show (n : Rat) = (n : Rat) * ((1 : Nat) : Rat)
    have : ((1 : Nat) : Rat) = 1 := rfl
    rw [this]; grind
  · simp only [Cx.ofInt]
    have : ((0 : Int) : Rat) = 0 := rfl
    rw [this]; grind

theorem zero_iff (x : Cx) : (na x = 0 ∧ nb x = 0) ↔ x = Cx.zero := by
  constructor
  · rintro ⟨h, k⟩
    have h1 := na_eq x
    have h2 := nb_eq x
    have h3 := nd_ne x
    rw [h] at h1; rw [k] at h2
    have e : ((0 : Int) : Rat) = 0 := rfl
    rw [e] at h1 h2
    apply Cx.ext' <;> simp only [Cx.zero] <;> grind
  · rintro rfl
    have := ofInt_form 0
    have e : Cx.ofInt 0 = Cx.zero := rfl
    rw [e] at this
    exact ⟨this.1, this.2.1⟩

end Pl
end Go.Proofs.YtgpmlhpgdalheaaGreat
