/- The laws of a field with a conjugation and a norm, as the tests that the law makes. -/
import Derived.Test.YtgpmlhpgdalheaaGreatLawA
namespace Go.Proofs.YtgpmlhpgdalheaaGreat
open Go.RowKit Pl
set_option linter.unusedVariables false
set_option linter.unusedSimpArgs false

theorem la1 (x y : Cx) : decide (x.add y = y.add x) = true := decide_eq_true (by refine Cx.ext' ?_ ?_ <;> simp only [Cx.add] <;> grind)
theorem la2 (x y : Cx) : decide (x.mul y = y.mul x) = true := decide_eq_true (by refine Cx.ext' ?_ ?_ <;> simp only [Cx.mul] <;> grind)
theorem la3 (x y z : Cx) : decide ((x.add y).add z = x.add (y.add z)) = true := decide_eq_true (by refine Cx.ext' ?_ ?_ <;> simp only [Cx.add] <;> grind)
theorem la4 (x y z : Cx) : decide ((x.mul y).mul z = x.mul (y.mul z)) = true := decide_eq_true (by refine Cx.ext' ?_ ?_ <;> simp only [Cx.mul] <;> grind)
theorem la5 (x y z : Cx) : decide (x.mul (y.add z) = (x.mul y).add (x.mul z)) = true := decide_eq_true (by refine Cx.ext' ?_ ?_ <;> simp only [Cx.mul, Cx.add] <;> grind)
theorem la6 (x y : Cx) : decide ((x.sub y).add y = x) = true := decide_eq_true (by refine Cx.ext' ?_ ?_ <;> simp only [Cx.sub, Cx.neg, Cx.add] <;> grind)
theorem la7 (x : Cx) : decide (x.add x.neg = Cx.ofInt 0) = true := decide_eq_true (by refine Cx.ext' ?_ ?_ <;> simp only [Cx.neg, Cx.add, Cx.ofInt] <;> grind)
theorem nrm_ne0 {y : Cx} (h : y ≠ Cx.zero) : y.nrm ≠ 0 := by
  intro e
  apply norm_ne h
  have := ab_norm y
  rw [e] at this
  have e2 : ((ab (na y * na y + nb y * nb y) : Nat) : Rat) = 0 := by rw [this]; grind
  exact_mod_cast e2
theorem la8 (x : Cx) {y : Cx} (h : y ≠ Cx.zero) : decide ((x.div y).mul y = x) = true := decide_eq_true (by
  have hn := nrm_ne0 h
  refine Cx.ext' ?_ ?_ <;> simp only [Cx.div, Cx.mul] <;> unfold Cx.nrm at * <;> generalize e : y.re * y.re + y.im * y.im = m at * <;> grind)
theorem la9 (x y : Cx) : decide ((x.add y).conj = x.conj.add y.conj) = true := decide_eq_true (by refine Cx.ext' ?_ ?_ <;> simp only [Cx.conj, Cx.add] <;> grind)
theorem la10 (x y : Cx) : decide ((x.mul y).conj = x.conj.mul y.conj) = true := decide_eq_true (by refine Cx.ext' ?_ ?_ <;> simp only [Cx.conj, Cx.mul] <;> grind)
theorem la11 (x : Cx) : decide (x.norm = x.mul x.conj) = true := decide_eq_true (by refine Cx.ext' ?_ ?_ <;> simp only [Cx.conj, Cx.mul, Cx.norm, Cx.nrm] <;> grind)
theorem la12 (x y : Cx) : decide ((x.mul y).norm = x.norm.mul y.norm) = true := decide_eq_true (by refine Cx.ext' ?_ ?_ <;> simp only [Cx.mul, Cx.norm, Cx.nrm] <;> grind)
theorem la13 {y : Cx} (h : y = Cx.zero) : (!decide (y = Cx.zero)) = false := by rw [decide_eq_true h]; rfl
theorem la14 {y : Cx} (h : y ≠ Cx.zero) : (!decide (y = Cx.zero)) = true := by rw [decide_eq_false h]; rfl
theorem div_to (x y : Cx) (A1 A2 A3 B1 B2 B3 : Option Addr) (w : World) (hx : Num3 w A1 A2 A3 x) (hy : Num3 w B1 B2 B3 y) (hsx : sz 137438953472 x) (hsy : sz 137438953472 y) :
    Calls Tryz.prog 32 #[.agg #[.bool (sn (na x)), .slice A1 (ln (ab (na x))) (ln (ab (na x))), .bool (sn (nb x)), .slice A2 (ln (ab (nb x))) (ln (ab (nb x))), .slice A3 (ln (un x)) (ln (un x))], .agg #[.bool (sn (na y)), .slice B1 (ln (ab (na y))) (ln (ab (na y))), .bool (sn (nb y)), .slice B2 (ln (ab (nb y))) (ln (ab (nb y))), .slice B3 (ln (un y)) (ln (un y))]] w
      (fun e w' => ∃ c q, Hid ((y = Cx.zero ∧ c = 3) ∨ (y ≠ Cx.zero ∧ c = 0 ∧ q = x.div y)) ∧ RetNumE w c q e w') := by
  by_cases h : y = Cx.zero
  · exact (div_zero x y A1 A2 A3 B1 B2 B3 w hx hy hsx hsy h).mono fun e w' hr => ⟨3, Cx.zero, Lib.hid (.inl ⟨h, rfl⟩), hr⟩
  · exact (div_num0 x y A1 A2 A3 B1 B2 B3 w hx hy hsx hsy h).mono fun e w' hr => ⟨0, x.div y, Lib.hid (.inr ⟨h, rfl, rfl⟩), hr⟩
end Go.Proofs.YtgpmlhpgdalheaaGreat
