/- Contracts in the forms that the laws want; the sizes; Cmp as the order by the real parts, then the imaginary parts. -/
import Derived.Test.YtgpmlhpgdalheaaGreatInv
namespace Go.Proofs.YtgpmlhpgdalheaaGreat
open Go.RowKit Pl
set_option linter.unusedVariables false
set_option linter.unusedSimpArgs false

/-- A number in a local variable. -/
def VarAt (w : World) (g : Nat) (q : Cx) (A1 A2 A3 : Option Addr) : Prop := g < w.heap.size ∧ Cells5 w g q A1 A2 A3 ∧ Num3 w A1 A2 A3 q
theorem VarAt.to {w w' : World} {g : Nat} {q : Cx} {A1 A2 A3 : Option Addr} (h : VarAt w g q A1 A2 A3) (hb : Below w.heap.size w w') : VarAt w' g q A1 A2 A3 := by
  obtain ⟨h2, ⟨c0, c1, c2, c3, c4⟩, h3⟩ := h
  exact ⟨Nat.lt_of_lt_of_le h2 hb.size, ⟨keepc hb c0 h2, keepc hb c1 h2, keepc hb c2 h2, keepc hb c3 h2, keepc hb c4 h2⟩, h3.to hb⟩
theorem SlotHas.at {w : World} {u : Value} {q : Cx} (h : SlotHas w u q) : ∃ g A1 A2 A3, u = .pointer (some ⟨g, 0, none⟩) ∧ VarAt w g q A1 A2 A3 := by
  obtain ⟨g, A1, A2, A3, e, h2, h5, h3⟩ := h; exact ⟨g, A1, A2, A3, e, h2, h5, h3⟩

theorem same_to (x y : Cx) (A1 A2 A3 B1 B2 B3 : Option Addr) (w : World) (hx : Num3 w A1 A2 A3 x) (hy : Num3 w B1 B2 B3 y) (hsx : sz 137438953472 x) (hsy : sz 137438953472 y) {b : Bool} (h : decide (x = y) = b) :
    Calls Tryz.prog 48 #[.agg #[.bool (sn (na x)), .slice A1 (ln (ab (na x))) (ln (ab (na x))), .bool (sn (nb x)), .slice A2 (ln (ab (nb x))) (ln (ab (nb x))), .slice A3 (ln (un x)) (ln (un x))], .agg #[.bool (sn (na y)), .slice B1 (ln (ab (na y))) (ln (ab (na y))), .bool (sn (nb y)), .slice B2 (ln (ab (nb y))) (ln (ab (nb y))), .slice B3 (ln (un y)) (ln (un y))]] w (RetBool w b) := h ▸ same_any x y A1 A2 A3 B1 B2 B3 w hx hy hsx hsy
theorem cmp_to (x y : Cx) (A1 A2 A3 B1 B2 B3 : Option Addr) (w : World) (hx : Num3 w A1 A2 A3 x) (hy : Num3 w B1 B2 B3 y) (hsx : sz 137438953472 x) (hsy : sz 137438953472 y) {n : Int} (h : cmpC x y = n) :
    Calls Tryz.prog 50 #[.agg #[.bool (sn (na x)), .slice A1 (ln (ab (na x))) (ln (ab (na x))), .bool (sn (nb x)), .slice A2 (ln (ab (nb x))) (ln (ab (nb x))), .slice A3 (ln (un x)) (ln (un x))], .agg #[.bool (sn (na y)), .slice B1 (ln (ab (na y))) (ln (ab (na y))), .bool (sn (nb y)), .slice B2 (ln (ab (nb y))) (ln (ab (nb y))), .slice B3 (ln (un y)) (ln (un y))]] w (RetInt w n) := h ▸ cmp_num x y A1 A2 A3 B1 B2 B3 w hx hy hsx hsy
theorem side_to (x : Cx) (A1 A2 A3 : Option Addr) (w : World) (hx : Num3 w A1 A2 A3 x) (hsx : sz 137438953472 x) {n : Int} (h : cmpZ (nb x) 0 = n) :
    Calls Tryz.prog 52 #[.agg #[.bool (sn (na x)), .slice A1 (ln (ab (na x))) (ln (ab (na x))), .bool (sn (nb x)), .slice A2 (ln (ab (nb x))) (ln (ab (nb x))), .slice A3 (ln (un x)) (ln (un x))]] w (RetInt w n) := h ▸ side_any x A1 A2 A3 w hx hsx
theorem clear_to (x : Cx) (A1 A2 A3 : Option Addr) (w : World) (hx : Num3 w A1 A2 A3 x) (hsx : sz 1099511627776 x) {b : Bool} (h : (!decide (x = Cx.zero)) = b) :
    Calls Tryz.prog 46 #[.agg #[.bool (sn (na x)), .slice A1 (ln (ab (na x))) (ln (ab (na x))), .bool (sn (nb x)), .slice A2 (ln (ab (nb x))) (ln (ab (nb x))), .slice A3 (ln (un x)) (ln (un x))]] w (RetBool w b) := h ▸ clear_any x A1 A2 A3 w hx hsx

theorem sz_sub {K : Nat} {x y : Cx} (hx : sz K x) (hy : sz K y) : sz (2 * K + 1) (x.sub y) := sz_add hx (sz_neg hy)
theorem sz_im {K : Nat} {x : Cx} (hx : sz K x) : sz K x.imOf := by
  rw [← im_fr]; exact fr_sz (nd_ne0 x) hx.2.1 (by show ln 0 ≤ K; rw [ln_zero]; omega) hx.2.2
theorem sz_norm {K : Nat} {x : Cx} (hx : sz K x) : sz (2 * K + 1) x.norm := by
  rw [← norm_fr]
  have h1 := ab_mul_ln hx.1 hx.1
  have h2 := ab_mul_ln hx.2.1 hx.2.1
  have h3 := ab_add_ln h1 h2
  refine fr_sz (Nat.mul_ne_zero (nd_ne0 x) (nd_ne0 x)) (by omega) (by show ln 0 ≤ _; rw [ln_zero]; omega) ?_
  have := nat_mul_ln hx.2.2 hx.2.2
  omega
theorem sz_int {n : Int} {K : Nat} (h : ln (ab n) ≤ K) (h1 : 1 ≤ K) : sz K (Cx.ofInt n) := by
  obtain ⟨e1, e2, e3⟩ := ofInt_form n
  refine ⟨by rw [e1]; exact h, by rw [e2]; show ln 0 ≤ K; rw [ln_zero]; omega, by rw [e3, ln_one]; exact h1⟩
theorem sz_int0 : sz 1 (Cx.ofInt 0) := sz_int (by show ln 0 ≤ 1; rw [ln_zero]; omega) (by omega)

/-- The order of two rational numbers, as -1, 0, 1. -/
def cmpR (r s : Rat) : Int := if r < s then -1 else if r = s then 0 else 1
theorem cross_lt {a b : Int} {d e : Nat} {r s : Rat} (hd : 0 < d) (he : 0 < e) (h : (a : Rat) = r * (d : Rat)) (k : (b : Rat) = s * (e : Rat)) : (a * (e : Int) < b * (d : Int) ↔ r < s) ∧ (a * (e : Int) = b * (d : Int) ↔ r = s) := by
  have hd' : (0 : Rat) < (d : Rat) := by exact_mod_cast hd
  have he' : (0 : Rat) < (e : Rat) := by exact_mod_cast he
  have p : (0 : Rat) < (d : Rat) * (e : Rat) := Rat.mul_pos hd' he'
  have e1 : ((a * (e : Int) : Int) : Rat) = r * ((d : Rat) * (e : Rat)) := by rw [Rat.intCast_mul, h, Rat.intCast_natCast]; grind
  have e2 : ((b * (d : Int) : Int) : Rat) = s * ((d : Rat) * (e : Rat)) := by rw [Rat.intCast_mul, k, Rat.intCast_natCast]; grind
  generalize (d : Rat) * (e : Rat) = m at *
  generalize a * (e : Int) = u at *
  generalize b * (d : Int) = v at *
  constructor
  · rw [← Rat.intCast_lt_intCast, e1, e2]
    exact Rat.mul_lt_mul_right p
  · rw [← Rat.intCast_inj, e1, e2]
    constructor
    · intro q; have : m ≠ 0 := by grind
      grind
    · rintro rfl; rfl
theorem cmpZ_cross {a b : Int} {d e : Nat} {r s : Rat} (hd : 0 < d) (he : 0 < e) (h : (a : Rat) = r * (d : Rat)) (k : (b : Rat) = s * (e : Rat)) : cmpZ (a * (e : Int)) (b * (d : Int)) = cmpR r s := by
  obtain ⟨h1, h2⟩ := cross_lt hd he h k
  unfold cmpZ cmpR
  by_cases c : r < s
  · rw [if_pos (h1.2 c), if_pos c]
  · rw [if_neg (fun q => c (h1.1 q)), if_neg c]
    by_cases c2 : r = s
    · rw [if_pos (h2.2 c2), if_pos c2]
    · rw [if_neg (fun q => c2 (h2.1 q)), if_neg c2]
theorem cmpC_rat (x y : Cx) : cmpC x y = if x.re = y.re then cmpR x.im y.im else cmpR x.re y.re := by
  have h := (cross_lt (nd_pos x) (nd_pos y) (na_eq x) (na_eq y)).2
  by_cases c : x.re = y.re
  · rw [if_pos c, cmpC_im (h.2 c)]; exact cmpZ_cross (nd_pos x) (nd_pos y) (nb_eq x) (nb_eq y)
  · rw [if_neg c, cmpC_re (fun q => c (h.1 q))]; exact cmpZ_cross (nd_pos x) (nd_pos y) (na_eq x) (na_eq y)
theorem cmpC_vals (x y : Cx) : cmpC x y = -1 ∨ cmpC x y = 0 ∨ cmpC x y = 1 := by
  rw [cmpC_rat]; unfold cmpR; grind
theorem cmpC_swap (x y : Cx) : cmpC y x = -cmpC x y := by
  rw [cmpC_rat, cmpC_rat]; unfold cmpR; grind
theorem cmpC_zero (x y : Cx) : cmpC x y = 0 ↔ x = y := by
  rw [cmpC_rat]; unfold cmpR
  constructor
  · intro h; refine Cx.ext' ?_ ?_ <;> grind
  · rintro rfl; grind
theorem cmpC_add (x y z : Cx) : cmpC (x.add z) (y.add z) = cmpC x y := by
  rw [cmpC_rat, cmpC_rat]; unfold cmpR
  simp only [Cx.add]
  grind
theorem cmpC_trans {x y z : Cx} (h : cmpC x y ≤ 0) (k : cmpC y z ≤ 0) : cmpC x z ≤ 0 := by
  rw [cmpC_rat] at *; unfold cmpR at *; grind
theorem side_cmp (x : Cx) : cmpC x.imOf (Cx.ofInt 0) = cmpZ (nb x) 0 := by
  have h := cmpZ_cross (a := nb x) (b := 0) (d := nd x) (e := 1) (r := x.im) (s := 0) (nd_pos x) (by omega) (nb_eq x) (by simp)
  simp at h
  rw [h, cmpC_rat]
  simp only [Cx.imOf, Cx.ofInt]
  unfold cmpR
  grind
end Go.Proofs.YtgpmlhpgdalheaaGreat
