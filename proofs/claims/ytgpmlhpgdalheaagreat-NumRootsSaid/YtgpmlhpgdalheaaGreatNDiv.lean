/- 'Num.Div'. Condition: at most 2^37 words each. -/
import Derived.Test.YtgpmlhpgdalheaaGreatNum5
namespace Go.Proofs.YtgpmlhpgdalheaaGreat
open Go.RowKit Pl
set_option linter.unusedVariables false
set_option linter.unusedSimpArgs false

/-- A call hands back a number and an error number. -/
def RetNumE (w : World) (c : Int) (q : Cx) (e : Ending) (w' : World) : Prop := ∃ A1 A2 A3, e = .returned (.tuple #[.agg #[.bool (sn (na q)), .slice A1 (ln (ab (na q))) (ln (ab (na q))), .bool (sn (nb q)), .slice A2 (ln (ab (nb q))) (ln (ab (nb q))), .slice A3 (ln (un q)) (ln (un q))], .int .i64 c]) ∧ Num3 w' A1 A2 A3 q ∧ Below w.heap.size w w'

theorem ret_and {a b c : Value} (h : Ending.returned a = .returned b) : Ending.returned (.tuple #[a, c]) = .returned (.tuple #[b, c]) := by injection h with h; rw [h]
theorem retNumE_fin {w W : World} {q : Cx} {A1 A2 A3 : Option Addr} {R : Nat} {c : Bool} {k : Int} (hB : Hid (Below w.heap.size w W)) (h1 : Num3 W A1 A2 A3 q) (hR : w.heap.size ≤ R) (r0 : W.cell? ⟨R, 0, none⟩ = some (.bool c)) :
    RetNumE w k q (.returned (.tuple #[.agg #[.bool (sn (na q)), .slice A1 (ln (ab (na q))) (ln (ab (na q))), .bool (sn (nb q)), .slice A2 (ln (ab (nb q))) (ln (ab (nb q))), .slice A3 (ln (un q)) (ln (un q))], .int .i64 k]))
      (((((W.setCell ⟨R, 0, none⟩ (.bool (sn (na q)))).setCell ⟨R, 1, none⟩ (.slice A1 (ln (ab (na q))) (ln (ab (na q))))).setCell ⟨R, 2, none⟩ (.bool (sn (nb q)))).setCell ⟨R, 3, none⟩ (.slice A2 (ln (ab (nb q))) (ln (ab (nb q))))).setCell ⟨R, 4, none⟩ (.slice A3 (ln (un q)) (ln (un q)))) := by
  obtain ⟨B1, B2, B3, e, h⟩ := retNum_fin (A1 := A1) (A2 := A2) (A3 := A3) hB h1 hR r0
  exact ⟨B1, B2, B3, ret_and e, h⟩

theorem zero_form : na Cx.zero = 0 ∧ nb Cx.zero = 0 ∧ un Cx.zero = 0 := by
  obtain ⟨e1, e2, e3⟩ := ofInt_form 0
  exact ⟨e1, e2, un_one e3⟩

theorem norm_ne {y : Cx} (h0 : y ≠ Cx.zero) : ab (na y * na y + nb y * nb y) ≠ 0 := by
  intro h
  have h1 : na y * na y + nb y * nb y = 0 := by unfold ab at h; omega
  have ha : 0 ≤ na y * na y := by rcases Int.le_total 0 (na y) with h | h; exact Int.mul_nonneg h h; exact Int.mul_nonneg_of_nonpos_of_nonpos h h
  have hb : 0 ≤ nb y * nb y := by rcases Int.le_total 0 (nb y) with h | h; exact Int.mul_nonneg h h; exact Int.mul_nonneg_of_nonpos_of_nonpos h h
  have ea : na y = 0 := by rcases Int.mul_eq_zero.1 (show na y * na y = 0 by omega) with h | h <;> exact h
  have eb : nb y = 0 := by rcases Int.mul_eq_zero.1 (show nb y * nb y = 0 by omega) with h | h <;> exact h
  exact h0 ((zero_iff y).1 ⟨ea, eb⟩)
theorem div_ne (x : Cx) {y : Cx} (h0 : y ≠ Cx.zero) : nd (x.mul (fr (na y) (-nb y) 1)) * ab (na y * na y + nb y * nb y) ≠ 0 := Nat.mul_ne_zero (nd_ne0 _) (norm_ne h0)
theorem ab_norm (y : Cx) : ((ab (na y * na y + nb y * nb y) : Nat) : Rat) = Cx.nrm y * (nd y : Rat) * (nd y : Rat) := by
  have ha : 0 ≤ na y * na y := by rcases Int.le_total 0 (na y) with h | h; exact Int.mul_nonneg h h; exact Int.mul_nonneg_of_nonpos_of_nonpos h h
  have hb : 0 ≤ nb y * nb y := by rcases Int.le_total 0 (nb y) with h | h; exact Int.mul_nonneg h h; exact Int.mul_nonneg_of_nonpos_of_nonpos h h
  have e : ((ab (na y * na y + nb y * nb y) : Nat) : Int) = na y * na y + nb y * nb y := by unfold ab; omega
  have e2 : ((ab (na y * na y + nb y * nb y) : Nat) : Rat) = (na y : Rat) * (na y : Rat) + (nb y : Rat) * (nb y : Rat) := by
    rw [← Rat.intCast_natCast, e, Rat.intCast_add, Rat.intCast_mul, Rat.intCast_mul]
  rw [e2, na_eq, nb_eq]; unfold Cx.nrm; grind
theorem div_fr (x : Cx) {y : Cx} (h0 : y ≠ Cx.zero) : fr (na (x.mul (fr (na y) (-nb y) 1)) * (nd y : Int)) (nb (x.mul (fr (na y) (-nb y) 1)) * (nd y : Int)) (nd (x.mul (fr (na y) (-nb y) 1)) * ab (na y * na y + nb y * nb y)) = x.div y := by
  have hn := ab_norm y
  have h1 : ((ab (na y * na y + nb y * nb y) : Nat) : Rat) ≠ 0 := by
    intro h; exact norm_ne h0 (by exact_mod_cast h)
  have hr : Cx.nrm y ≠ 0 := by intro h; rw [h] at hn; grind
  have hz1 : (x.mul (fr (na y) (-nb y) 1)).re = (x.re * y.re + x.im * y.im) * (nd y : Rat) := by
    simp only [Cx.mul, fr, Rat.intCast_neg, na_eq, nb_eq]; grind
  have hz2 : (x.mul (fr (na y) (-nb y) 1)).im = (x.im * y.re - x.re * y.im) * (nd y : Rat) := by
    simp only [Cx.mul, fr, Rat.intCast_neg, na_eq, nb_eq]; grind
  have k1 := na_eq (x.mul (fr (na y) (-nb y) 1))
  have k2 := nb_eq (x.mul (fr (na y) (-nb y) 1))
  rw [hz1] at k1
  rw [hz2] at k2
  refine fr_eq (Nat.pos_of_ne_zero (div_ne x h0)) ?_ ?_
  · rw [Rat.intCast_mul, k1, Rat.natCast_mul, hn, Rat.intCast_natCast]; simp only [Cx.div]; grind
  · rw [Rat.intCast_mul, k2, Rat.natCast_mul, hn, Rat.intCast_natCast]; simp only [Cx.div]; grind

/-- A new slice of the one word 1. -/
theorem nat1_new (V : World) (T : TypeId) : Nat32 (V.alloc (.cells #[.int .u32 1] T)) (some ⟨V.heap.size, 0, none⟩) 1 := fun _ => ⟨V.heap.size, rfl, by simp, fun j hj => by
  rw [ln_one] at hj; obtain rfl : j = 0 := by omega
  rw [show wd 1 0 = 1 by rw [wd_0]]
  go_simp⟩

/-- 'over(re, im, nat{1})'. -/
theorem over1_any (a b : Int) (A B D : Option Addr) (w : World) (hx : Nat32 w A (ab a)) (hy : Nat32 w B (ab b)) (hd : Nat32 w D 1) (hbx : ln (ab a) ≤ 1099511627776) (hby : ln (ab b) ≤ 1099511627776) :
    Calls Tryz.prog 96 #[.agg #[.bool (sn (a)), .slice A (ln (ab (a))) (ln (ab (a)))], .agg #[.bool (sn (b)), .slice B (ln (ab (b))) (ln (ab (b)))], .slice D 1 1] w (RetNum w (fr a b 1)) := by
  have h := over_any a b 1 A B D w hx hy hd hbx hby (by rw [ln_one]; omega) (by omega)
  rw [ln_one] at h
  exact h

/-- The cells of a number. -/
def Cells5 (w : World) (g : Nat) (q : Cx) (A1 A2 A3 : Option Addr) : Prop := w.cell? ⟨g, 0, none⟩ = some (.bool (sn (na q))) ∧ w.cell? ⟨g, 1, none⟩ = some (.slice A1 (ln (ab (na q))) (ln (ab (na q)))) ∧ w.cell? ⟨g, 2, none⟩ = some (.bool (sn (nb q))) ∧ w.cell? ⟨g, 3, none⟩ = some (.slice A2 (ln (ab (nb q))) (ln (ab (nb q)))) ∧ w.cell? ⟨g, 4, none⟩ = some (.slice A3 (ln (un q)) (ln (un q)))
/-- A local variable that holds a number. -/
def VarNum (W : World) (q : Cx) (p : Value) (wx : World) : Prop := ∃ g A1 A2 A3, p = .pointer (some ⟨g, 0, none⟩) ∧ Cells5 wx g q A1 A2 A3 ∧ Num3 wx A1 A2 A3 q ∧ W.heap.size ≤ g ∧ g < wx.heap.size ∧ Below W.heap.size W wx

theorem keepd {w : World} {b i : Nat} {v : Value} (h : w.cell? ⟨b, i, none⟩ = some v) : w.drew.cell? ⟨b, i, none⟩ = some v := h
theorem lta {w : World} {o : Obj} {b : Nat} (h : b < w.heap.size) : b < (w.alloc o).heap.size := by simp; omega
theorem newnat {V w1 : World} {T : TypeId} (h : Below (V.alloc (.cells #[.int .u32 1] T)).heap.size (V.alloc (.cells #[.int .u32 1] T)) w1) : Nat32 w1 (some ⟨V.heap.size, 0, none⟩) 1 := (nat1_new V T).to h
theorem newnat1 {V w1 : World} {o : Obj} {T : TypeId} (h : Below ((V.alloc o).alloc (.cells #[.int .u32 1] T)).heap.size ((V.alloc o).alloc (.cells #[.int .u32 1] T)) w1) : Nat32 w1 (some ⟨V.heap.size + 1, 0, none⟩) 1 := by
  have := newnat h; simpa using this
theorem nat1_new1 (V : World) (o : Obj) (T : TypeId) : Nat32 ((V.alloc o).alloc (.cells #[.int .u32 1] T)) (some ⟨V.heap.size + 1, 0, none⟩) 1 := by
  have := nat1_new (V.alloc o) T; simpa using this

/-- A new variable for a number, made at or above the block B. -/
def NewVarN (B g : Nat) (w : World) : Prop := B ≤ g ∧ g < w.heap.size ∧ (w.cell? ⟨g, 0, none⟩ = some (.bool false) ∧ w.cell? ⟨g, 1, none⟩ = some (.slice none 0 0) ∧ w.cell? ⟨g, 2, none⟩ = some (.bool false) ∧ w.cell? ⟨g, 3, none⟩ = some (.slice none 0 0) ∧ w.cell? ⟨g, 4, none⟩ = some (.slice none 0 0)) ∧ (w.frozen? ⟨g, 0, none⟩ = false ∧ w.frozen? ⟨g, 1, none⟩ = false ∧ w.frozen? ⟨g, 2, none⟩ = false ∧ w.frozen? ⟨g, 3, none⟩ = false ∧ w.frozen? ⟨g, 4, none⟩ = false)
theorem NewVarN.to {B g : Nat} {w w' : World} (h : NewVarN B g w) (hb : Below w.heap.size w w') : NewVarN B g w' :=
  by
  obtain ⟨h1, h2, ⟨c0, c1, c2, c3, c4⟩, f0, f1, f2, f3, f4⟩ := h
  exact ⟨h1, Nat.lt_of_lt_of_le h2 hb.size, ⟨keepc hb c0 h2, keepc hb c1 h2, keepc hb c2 h2, keepc hb c3 h2, keepc hb c4 h2⟩, keepf hb f0 h2, keepf hb f1 h2, keepf hb f2 h2, keepf hb f3 h2, keepf hb f4 h2⟩
theorem newvarN {V w1 : World} {T : TypeId} (h : Below (V.alloc (.cells #[.bool false, .slice none 0 0, .bool false, .slice none 0 0, .slice none 0 0] T)).heap.size (V.alloc (.cells #[.bool false, .slice none 0 0, .bool false, .slice none 0 0, .slice none 0 0] T)) w1) : NewVarN V.heap.size V.heap.size w1 :=
  NewVarN.to ⟨Nat.le_refl _, by simp, ⟨by go_simp, by go_simp, by go_simp, by go_simp, by go_simp⟩, by go_simp, by go_simp, by go_simp, by go_simp, by go_simp⟩ h
theorem newvarN1 {V w1 : World} {o : Obj} {T : TypeId} (h : Below ((V.alloc o).alloc (.cells #[.bool false, .slice none 0 0, .bool false, .slice none 0 0, .slice none 0 0] T)).heap.size ((V.alloc o).alloc (.cells #[.bool false, .slice none 0 0, .bool false, .slice none 0 0, .slice none 0 0] T)) w1) : NewVarN V.heap.size (V.heap.size + 1) w1 := by
  obtain ⟨a, b⟩ := newvarN h
  simp only [World.size_alloc] at a b
  exact ⟨by omega, b⟩

theorem num3_alloc {w : World} {A1 A2 A3 : Option Addr} {q : Cx} {o : Obj} (h : Num3 w A1 A2 A3 q) : Num3 (w.alloc o) A1 A2 A3 q := ⟨h.1.alloc _, h.2.1.alloc _, h.2.2.alloc _⟩
theorem varNum_set {W wn : World} {q : Cx} {g B : Nat} {A1 A2 A3 : Option Addr} (K : Below W.heap.size W wn) (n : NewVarN B g wn) (hg : W.heap.size ≤ g) (h : Num3 wn A1 A2 A3 q) :
    VarNum W q (.pointer (some ⟨g, 0, none⟩)) (((((wn.setCell ⟨g, 0, none⟩ (.bool (sn (na q)))).setCell ⟨g, 1, none⟩ (.slice A1 (ln (ab (na q))) (ln (ab (na q))))).setCell ⟨g, 2, none⟩ (.bool (sn (nb q)))).setCell ⟨g, 3, none⟩ (.slice A2 (ln (ab (nb q))) (ln (ab (nb q))))).setCell ⟨g, 4, none⟩ (.slice A3 (ln (un q)) (ln (un q)))) := by
  obtain ⟨_, hl, ⟨c0, c1, c2, c3, c4⟩, _⟩ := n
  obtain ⟨D1, D2, D3, e, h3, hb⟩ := retNum_fin (q := q) (A1 := A1) (A2 := A2) (A3 := A3) (Lib.hid K) h hg c0
  injection e with e
  simp only [Value.agg.injEq, Array.mk.injEq, List.cons.injEq, Value.slice.injEq, and_true, true_and] at e
  obtain ⟨rfl, rfl, rfl⟩ := e
  have o0 := cell_self (u := .bool (sn (na q))) c0
  refine ⟨g, A1, A2, A3, rfl, ⟨?_, ?_, ?_, ?_, ?_⟩, h3, hg, by simpa [World.setCell] using hl, hb⟩
  · exact keepo (keepo (keepo (keepo o0 (by omega)) (by omega)) (by omega)) (by omega)
  · exact keepo (keepo (keepo (cell_self (keepo c1 (by omega))) (by omega)) (by omega)) (by omega)
  · exact keepo (keepo (cell_self (keepo (keepo c2 (by omega)) (by omega))) (by omega)) (by omega)
  · exact keepo (cell_self (keepo (keepo (keepo c3 (by omega)) (by omega)) (by omega))) (by omega)
  · exact cell_self (keepo (keepo (keepo (keepo c4 (by omega)) (by omega)) (by omega)) (by omega))
theorem varNum_new {W wn : World} {q : Cx} {A1 A2 A3 : Option Addr} {T : TypeId} (K : Below W.heap.size W wn) (h : Num3 wn A1 A2 A3 q) :
    VarNum W q (.pointer (some ⟨wn.heap.size, 0, none⟩)) (wn.alloc (.cells #[.bool (sn (na q)), .slice A1 (ln (ab (na q))) (ln (ab (na q))), .bool (sn (nb q)), .slice A2 (ln (ab (nb q))) (ln (ab (nb q))), .slice A3 (ln (un q)) (ln (un q))] T)) :=
  ⟨wn.heap.size, A1, A2, A3, rfl, ⟨by go_simp, by go_simp, by go_simp, by go_simp, by go_simp⟩, ⟨h.1.alloc _, h.2.1.alloc _, h.2.2.alloc _⟩, K.size, by simp, K.alloc K.size _⟩

set_option maxHeartbeats 4000000 in
theorem div_zero (x y : Cx) (A1 A2 A3 B1 B2 B3 : Option Addr) (w : World) (hx : Num3 w A1 A2 A3 x) (hy : Num3 w B1 B2 B3 y) (hsx : sz 137438953472 x) (hsy : sz 137438953472 y) (h0 : y = Cx.zero) :
    Calls Tryz.prog 32 #[.agg #[.bool (sn (na x)), .slice A1 (ln (ab (na x))) (ln (ab (na x))), .bool (sn (nb x)), .slice A2 (ln (ab (nb x))) (ln (ab (nb x))), .slice A3 (ln (un x)) (ln (un x))], .agg #[.bool (sn (na y)), .slice B1 (ln (ab (na y))) (ln (ab (na y))), .bool (sn (nb y)), .slice B2 (ln (ab (nb y))) (ln (ab (nb y))), .slice B3 (ln (un y)) (ln (un y))]] w (RetNumE w 3 Cx.zero) := by
  obtain ⟨hx1, hx2, hx3⟩ := hx
  have HSX := Lib.hid hsx
  clear hsx
  obtain ⟨hy1, hy2, hy3⟩ := hy
  have HSY := Lib.hid hsy
  clear hsy
  have t : decide (y = Cx.zero) = true := decide_eq_true h0
  clear h0
  go_enter Tryz.func32, Tryz.ntmps32
  go_wp2_with fail
  obtain ⟨W, hW⟩ : ∃ W : World, W = (((w.alloc (.cells #[.bool (sn (na x)), .slice A1 (ln (ab (na x))) (ln (ab (na x))), .bool (sn (nb x)), .slice A2 (ln (ab (nb x))) (ln (ab (nb x))), .slice A3 (ln (un x)) (ln (un x))] 30)).alloc (.cells #[.bool (sn (na y)), .slice B1 (ln (ab (na y))) (ln (ab (na y))), .bool (sn (nb y)), .slice B2 (ln (ab (nb y))) (ln (ab (nb y))), .slice B3 (ln (un y)) (ln (un y))] 30)).alloc (.cells #[.bool false, .slice none 0 0, .bool false, .slice none 0 0, .slice none 0 0] 30)) := ⟨_, rfl⟩
  have s0_0 : W.cell? ⟨w.heap.size, 0, none⟩ = some (.bool (sn (na x))) := by subst hW; go_simp
  have s0_1 : W.cell? ⟨w.heap.size, 1, none⟩ = some (.slice A1 (ln (ab (na x))) (ln (ab (na x)))) := by subst hW; go_simp
  have s0_2 : W.cell? ⟨w.heap.size, 2, none⟩ = some (.bool (sn (nb x))) := by subst hW; go_simp
  have s0_3 : W.cell? ⟨w.heap.size, 3, none⟩ = some (.slice A2 (ln (ab (nb x))) (ln (ab (nb x)))) := by subst hW; go_simp
  have s0_4 : W.cell? ⟨w.heap.size, 4, none⟩ = some (.slice A3 (ln (un x)) (ln (un x))) := by subst hW; go_simp
  have s1_0 : W.cell? ⟨w.heap.size + 1, 0, none⟩ = some (.bool (sn (na y))) := by subst hW; go_simp
  have s1_1 : W.cell? ⟨w.heap.size + 1, 1, none⟩ = some (.slice B1 (ln (ab (na y))) (ln (ab (na y)))) := by subst hW; go_simp
  have s1_2 : W.cell? ⟨w.heap.size + 1, 2, none⟩ = some (.bool (sn (nb y))) := by subst hW; go_simp
  have s1_3 : W.cell? ⟨w.heap.size + 1, 3, none⟩ = some (.slice B2 (ln (ab (nb y))) (ln (ab (nb y)))) := by subst hW; go_simp
  have s1_4 : W.cell? ⟨w.heap.size + 1, 4, none⟩ = some (.slice B3 (ln (un y)) (ln (un y))) := by subst hW; go_simp
  have r0 : W.cell? ⟨w.heap.size + 1 + 1, 0, none⟩ = some (.bool false) := by subst hW; go_simp
  have f0 : W.frozen? ⟨w.heap.size + 1 + 1, 0, none⟩ = false := by subst hW; go_simp
  have r1 : W.cell? ⟨w.heap.size + 1 + 1, 1, none⟩ = some (.slice none 0 0) := by subst hW; go_simp
  have f1 : W.frozen? ⟨w.heap.size + 1 + 1, 1, none⟩ = false := by subst hW; go_simp
  have r2 : W.cell? ⟨w.heap.size + 1 + 1, 2, none⟩ = some (.bool false) := by subst hW; go_simp
  have f2 : W.frozen? ⟨w.heap.size + 1 + 1, 2, none⟩ = false := by subst hW; go_simp
  have r3 : W.cell? ⟨w.heap.size + 1 + 1, 3, none⟩ = some (.slice none 0 0) := by subst hW; go_simp
  have f3 : W.frozen? ⟨w.heap.size + 1 + 1, 3, none⟩ = false := by subst hW; go_simp
  have r4 : W.cell? ⟨w.heap.size + 1 + 1, 4, none⟩ = some (.slice none 0 0) := by subst hW; go_simp
  have f4 : W.frozen? ⟨w.heap.size + 1 + 1, 4, none⟩ = false := by subst hW; go_simp
  have HW : Below w.heap.size w W := by subst hW; exact ((((Below.refl w.heap.size w).alloc (Nat.le_refl _) _).alloc (by simp) _).alloc (by simp; omega) _)
  have l0 : w.heap.size < W.heap.size := by subst hW; simp <;> omega
  have l1 : w.heap.size + 1 < W.heap.size := by subst hW; simp <;> omega
  have l2 : w.heap.size + 1 + 1 < W.heap.size := by subst hW; simp
  have n0 : w.heap.size ≠ w.heap.size + 1 + 1 := by omega
  have n1 : w.heap.size + 1 ≠ w.heap.size + 1 + 1 := by omega
  replace hx1 := hx1.to HW
  replace hx2 := hx2.to HW
  replace hx3 := hx3.to HW
  replace hy1 := hy1.to HW
  replace hy2 := hy2.to HW
  replace hy3 := hy3.to HW
  rw [← hW]
  clear hW
  replace HW := Lib.hid HW
  refine (clear_any y B1 B2 B3 _ (by exact num3_mk hy1 hy2 hy3) (sz.mono HSY.out (by omega))).mono ?_
  rintro e w1 ⟨rfl, hb1⟩
  replace s0_0 := keepc hb1 s0_0 l0
  replace s0_1 := keepc hb1 s0_1 l0
  replace s0_2 := keepc hb1 s0_2 l0
  replace s0_3 := keepc hb1 s0_3 l0
  replace s0_4 := keepc hb1 s0_4 l0
  replace s1_0 := keepc hb1 s1_0 l1
  replace s1_1 := keepc hb1 s1_1 l1
  replace s1_2 := keepc hb1 s1_2 l1
  replace s1_3 := keepc hb1 s1_3 l1
  replace s1_4 := keepc hb1 s1_4 l1
  replace r0 := keepc hb1 r0 l2
  replace f0 := keepf hb1 f0 l2
  replace r1 := keepc hb1 r1 l2
  replace f1 := keepf hb1 f1 l2
  replace r2 := keepc hb1 r2 l2
  replace f2 := keepf hb1 f2 l2
  replace r3 := keepc hb1 r3 l2
  replace f3 := keepf hb1 f3 l2
  replace r4 := keepc hb1 r4 l2
  replace f4 := keepf hb1 f4 l2
  replace l0 := Nat.lt_of_lt_of_le l0 hb1.size
  replace l1 := Nat.lt_of_lt_of_le l1 hb1.size
  replace l2 := Nat.lt_of_lt_of_le l2 hb1.size
  replace hx1 := hx1.to hb1
  replace hx2 := hx2.to hb1
  replace hx3 := hx3.to hb1
  replace hy1 := hy1.to hb1
  replace hy2 := hy2.to hb1
  replace hy3 := hy3.to hb1
  replace HW := Lib.hid (hstep HW hb1)
  clear hb1
  go_wp2_with fail
  refine bodyPost_ret (v := .tuple #[.agg #[.bool false, .slice none 0 0, .bool false, .slice none 0 0, .slice none 0 0], .int .i64 3]) (by simp [results, Tryz.results32, go_sem, r0, r1, r2, r3, r4, f0, f1, f2, f3, f4]) rfl ?_
  obtain ⟨e1, e2, e3⟩ := zero_form
  have h := retNumE_fin (k := 3) (q := Cx.zero) (A1 := none) (A2 := none) (A3 := none) HW ⟨by rw [e1]; exact fun e => absurd rfl e, by rw [e2]; exact fun e => absurd rfl e, by rw [e3]; exact fun e => absurd rfl e⟩ (by omega) r0
  rw [e1, e2, e3, sn_zero, show ab 0 = 0 from rfl, ln_zero] at h
  exact h

set_option maxHeartbeats 4000000 in
theorem div_num0 (x y : Cx) (A1 A2 A3 B1 B2 B3 : Option Addr) (w : World) (hx : Num3 w A1 A2 A3 x) (hy : Num3 w B1 B2 B3 y) (hsx : sz 137438953472 x) (hsy : sz 137438953472 y) (h0 : y ≠ Cx.zero) :
    Calls Tryz.prog 32 #[.agg #[.bool (sn (na x)), .slice A1 (ln (ab (na x))) (ln (ab (na x))), .bool (sn (nb x)), .slice A2 (ln (ab (nb x))) (ln (ab (nb x))), .slice A3 (ln (un x)) (ln (un x))], .agg #[.bool (sn (na y)), .slice B1 (ln (ab (na y))) (ln (ab (na y))), .bool (sn (nb y)), .slice B2 (ln (ab (nb y))) (ln (ab (nb y))), .slice B3 (ln (un y)) (ln (un y))]] w (RetNumE w 0 (x.div y)) := by
  obtain ⟨hx1, hx2, hx3⟩ := hx
  have HSX := Lib.hid hsx
  clear hsx
  obtain ⟨hy1, hy2, hy3⟩ := hy
  have HSY := Lib.hid hsy
  clear hsy
  have t : decide (y = Cx.zero) = false := decide_eq_false h0
  have HN := Lib.hid (div_ne x h0)
  rw [← div_fr x h0]
  clear h0
  go_enter Tryz.func32, Tryz.ntmps32
  go_wp2_with fail
  obtain ⟨W, hW⟩ : ∃ W : World, W = (((w.alloc (.cells #[.bool (sn (na x)), .slice A1 (ln (ab (na x))) (ln (ab (na x))), .bool (sn (nb x)), .slice A2 (ln (ab (nb x))) (ln (ab (nb x))), .slice A3 (ln (un x)) (ln (un x))] 30)).alloc (.cells #[.bool (sn (na y)), .slice B1 (ln (ab (na y))) (ln (ab (na y))), .bool (sn (nb y)), .slice B2 (ln (ab (nb y))) (ln (ab (nb y))), .slice B3 (ln (un y)) (ln (un y))] 30)).alloc (.cells #[.bool false, .slice none 0 0, .bool false, .slice none 0 0, .slice none 0 0] 30)) := ⟨_, rfl⟩
  have s0_0 : W.cell? ⟨w.heap.size, 0, none⟩ = some (.bool (sn (na x))) := by subst hW; go_simp
  have s0_1 : W.cell? ⟨w.heap.size, 1, none⟩ = some (.slice A1 (ln (ab (na x))) (ln (ab (na x)))) := by subst hW; go_simp
  have s0_2 : W.cell? ⟨w.heap.size, 2, none⟩ = some (.bool (sn (nb x))) := by subst hW; go_simp
  have s0_3 : W.cell? ⟨w.heap.size, 3, none⟩ = some (.slice A2 (ln (ab (nb x))) (ln (ab (nb x)))) := by subst hW; go_simp
  have s0_4 : W.cell? ⟨w.heap.size, 4, none⟩ = some (.slice A3 (ln (un x)) (ln (un x))) := by subst hW; go_simp
  have s1_0 : W.cell? ⟨w.heap.size + 1, 0, none⟩ = some (.bool (sn (na y))) := by subst hW; go_simp
  have s1_1 : W.cell? ⟨w.heap.size + 1, 1, none⟩ = some (.slice B1 (ln (ab (na y))) (ln (ab (na y)))) := by subst hW; go_simp
  have s1_2 : W.cell? ⟨w.heap.size + 1, 2, none⟩ = some (.bool (sn (nb y))) := by subst hW; go_simp
  have s1_3 : W.cell? ⟨w.heap.size + 1, 3, none⟩ = some (.slice B2 (ln (ab (nb y))) (ln (ab (nb y)))) := by subst hW; go_simp
  have s1_4 : W.cell? ⟨w.heap.size + 1, 4, none⟩ = some (.slice B3 (ln (un y)) (ln (un y))) := by subst hW; go_simp
  have r0 : W.cell? ⟨w.heap.size + 1 + 1, 0, none⟩ = some (.bool false) := by subst hW; go_simp
  have f0 : W.frozen? ⟨w.heap.size + 1 + 1, 0, none⟩ = false := by subst hW; go_simp
  have r1 : W.cell? ⟨w.heap.size + 1 + 1, 1, none⟩ = some (.slice none 0 0) := by subst hW; go_simp
  have f1 : W.frozen? ⟨w.heap.size + 1 + 1, 1, none⟩ = false := by subst hW; go_simp
  have r2 : W.cell? ⟨w.heap.size + 1 + 1, 2, none⟩ = some (.bool false) := by subst hW; go_simp
  have f2 : W.frozen? ⟨w.heap.size + 1 + 1, 2, none⟩ = false := by subst hW; go_simp
  have r3 : W.cell? ⟨w.heap.size + 1 + 1, 3, none⟩ = some (.slice none 0 0) := by subst hW; go_simp
  have f3 : W.frozen? ⟨w.heap.size + 1 + 1, 3, none⟩ = false := by subst hW; go_simp
  have r4 : W.cell? ⟨w.heap.size + 1 + 1, 4, none⟩ = some (.slice none 0 0) := by subst hW; go_simp
  have f4 : W.frozen? ⟨w.heap.size + 1 + 1, 4, none⟩ = false := by subst hW; go_simp
  have HW : Below w.heap.size w W := by subst hW; exact ((((Below.refl w.heap.size w).alloc (Nat.le_refl _) _).alloc (by simp) _).alloc (by simp; omega) _)
  have l0 : w.heap.size < W.heap.size := by subst hW; simp <;> omega
  have l1 : w.heap.size + 1 < W.heap.size := by subst hW; simp <;> omega
  have l2 : w.heap.size + 1 + 1 < W.heap.size := by subst hW; simp
  have n0 : w.heap.size ≠ w.heap.size + 1 + 1 := by omega
  have n1 : w.heap.size + 1 ≠ w.heap.size + 1 + 1 := by omega
  replace hx1 := hx1.to HW
  replace hx2 := hx2.to HW
  replace hx3 := hx3.to HW
  replace hy1 := hy1.to HW
  replace hy2 := hy2.to HW
  replace hy3 := hy3.to HW
  rw [← hW]
  clear hW
  replace HW := Lib.hid HW
  refine (clear_any y B1 B2 B3 _ (by exact num3_mk hy1 hy2 hy3) (sz.mono HSY.out (by omega))).mono ?_
  rintro e w1 ⟨rfl, hb1⟩
  replace s0_0 := keepc hb1 s0_0 l0
  replace s0_1 := keepc hb1 s0_1 l0
  replace s0_2 := keepc hb1 s0_2 l0
  replace s0_3 := keepc hb1 s0_3 l0
  replace s0_4 := keepc hb1 s0_4 l0
  replace s1_0 := keepc hb1 s1_0 l1
  replace s1_1 := keepc hb1 s1_1 l1
  replace s1_2 := keepc hb1 s1_2 l1
  replace s1_3 := keepc hb1 s1_3 l1
  replace s1_4 := keepc hb1 s1_4 l1
  replace r0 := keepc hb1 r0 l2
  replace f0 := keepf hb1 f0 l2
  replace r1 := keepc hb1 r1 l2
  replace f1 := keepf hb1 f1 l2
  replace r2 := keepc hb1 r2 l2
  replace f2 := keepf hb1 f2 l2
  replace r3 := keepc hb1 r3 l2
  replace f3 := keepf hb1 f3 l2
  replace r4 := keepc hb1 r4 l2
  replace f4 := keepf hb1 f4 l2
  replace l0 := Nat.lt_of_lt_of_le l0 hb1.size
  replace l1 := Nat.lt_of_lt_of_le l1 hb1.size
  replace l2 := Nat.lt_of_lt_of_le l2 hb1.size
  replace hx1 := hx1.to hb1
  replace hx2 := hx2.to hb1
  replace hx3 := hx3.to hb1
  replace hy1 := hy1.to hb1
  replace hy2 := hy2.to hb1
  replace hy3 := hy3.to hb1
  replace HW := Lib.hid (hstep HW hb1)
  clear hb1
  go_upto_region 3 with fail
  go_cut [6] (fun p wx => VarWhole w1 (na y * na y + nb y * nb y) p wx)
  case first =>
    have gB : Hid (Below w1.heap.size w1 w1) := Lib.hid (Below.refl _ _)
    go_region_held3 (fun w' => w'.cell? ⟨w.heap.size + 1, 0, none⟩ = some (.bool (sn (na y))) ∧ w'.cell? ⟨w.heap.size + 1, 1, none⟩ = some (.slice B1 (ln (ab (na y))) (ln (ab (na y)))) ∧ w'.cell? ⟨w.heap.size + 1, 2, none⟩ = some (.bool (sn (nb y))) ∧ w'.cell? ⟨w.heap.size + 1, 3, none⟩ = some (.slice B2 (ln (ab (nb y))) (ln (ab (nb y))))) (first | with_reducible exact ⟨s1_0, s1_1, s1_2, s1_3⟩ | with_reducible exact ⟨(keepa s1_0 l1), (keepa s1_1 l1), (keepa s1_2 l1), (keepa s1_3 l1)⟩ | with_reducible exact ⟨(keeps (keeps s1_0 gn1) gn1), (keeps (keeps s1_1 gn1) gn1), (keeps (keeps s1_2 gn1) gn1), (keeps (keeps s1_3 gn1) gn1)⟩ | exact ⟨s1_0, s1_1, s1_2, s1_3⟩ | exact ⟨(keepa s1_0 l1), (keepa s1_1 l1), (keepa s1_2 l1), (keepa s1_3 l1)⟩) (first
      | (go_at_call_of 104 (Value.slice B1 (ln (ab (na y))) (ln (ab (na y)))); refine (times_any (na y) (na y) B1 B1 _ (by first | with_reducible exact hy1 | with_reducible exact hy1.alloc _ | exact hy1 | exact hy1.alloc _) (by first | with_reducible exact hy1 | with_reducible exact hy1.alloc _ | exact hy1 | exact hy1.alloc _) (by have := HSY.out; unfold sz at this; omega) (by have := HSY.out; unfold sz at this; omega)).mono ?_; rintro e w2 ⟨S2, rfl, h2, ha2⟩; have hb2 : Below w1.heap.size w1 w2 := (by first | with_reducible exact ha2 | with_reducible exact undrew ha2 | with_reducible exact unalloc ha2 | with_reducible exact undrewalloc ha2 | with_reducible exact undrew (unalloc ha2)); (try replace ga0 := keepc hb2 ga0 gl); (try replace ga1 := keepc hb2 ga1 gl); (try replace gf0 := keepf hb2 gf0 gl); (try replace gf1 := keepf hb2 gf1 gl); (try replace gl := Nat.lt_of_lt_of_le gl hb2.size); (try (have gx := (by first | with_reducible exact newvar ha2 | with_reducible exact newvard ha2 | with_reducible exact newvare ha2 : NewVar w1 w2); have ga0 := gx.1; have ga1 := gx.2.1; have gf0 := gx.2.2.1; have gf1 := gx.2.2.2.1; have gl := gx.2.2.2.2; have gge := gB.out.size; have gn0 := Nat.ne_of_lt l0; have gn1 := Nat.ne_of_lt l1; have gn2 := Nat.ne_of_lt l2; clear gx)); replace gB := Lib.hid (onto gB.out hb2); replace s0_0 := keepc hb2 s0_0 l0; replace s0_1 := keepc hb2 s0_1 l0; replace s0_2 := keepc hb2 s0_2 l0; replace s0_3 := keepc hb2 s0_3 l0; replace s0_4 := keepc hb2 s0_4 l0; replace s1_0 := keepc hb2 s1_0 l1; replace s1_1 := keepc hb2 s1_1 l1; replace s1_2 := keepc hb2 s1_2 l1; replace s1_3 := keepc hb2 s1_3 l1; replace s1_4 := keepc hb2 s1_4 l1; replace r0 := keepc hb2 r0 l2; replace f0 := keepf hb2 f0 l2; replace r1 := keepc hb2 r1 l2; replace f1 := keepf hb2 f1 l2; replace r2 := keepc hb2 r2 l2; replace f2 := keepf hb2 f2 l2; replace r3 := keepc hb2 r3 l2; replace f3 := keepf hb2 f3 l2; replace r4 := keepc hb2 r4 l2; replace f4 := keepf hb2 f4 l2; replace l0 := Nat.lt_of_lt_of_le l0 hb2.size; replace l1 := Nat.lt_of_lt_of_le l1 hb2.size; replace l2 := Nat.lt_of_lt_of_le l2 hb2.size; replace hx1 := hx1.to hb2; replace hx2 := hx2.to hb2; replace hx3 := hx3.to hb2; replace hy1 := hy1.to hb2; replace hy2 := hy2.to hb2; replace hy3 := hy3.to hb2; replace HW := Lib.hid (hstep HW hb2); clear hb2; clear ha2)
      | (go_at_call_of 104 (Value.slice B2 (ln (ab (nb y))) (ln (ab (nb y)))); refine (times_any (nb y) (nb y) B2 B2 _ (by first | with_reducible exact hy2 | with_reducible exact hy2.alloc _ | exact hy2 | exact hy2.alloc _) (by first | with_reducible exact hy2 | with_reducible exact hy2.alloc _ | exact hy2 | exact hy2.alloc _) (by have := HSY.out; unfold sz at this; omega) (by have := HSY.out; unfold sz at this; omega)).mono ?_; rintro e w3 ⟨S3, rfl, h3, ha3⟩; have hb3 : Below w2.heap.size w2 w3 := (by first | with_reducible exact ha3 | with_reducible exact undrew ha3 | with_reducible exact unalloc ha3 | with_reducible exact undrewalloc ha3 | with_reducible exact undrew (unalloc ha3)); (try replace ga0 := keepc hb3 ga0 gl); (try replace ga1 := keepc hb3 ga1 gl); (try replace gf0 := keepf hb3 gf0 gl); (try replace gf1 := keepf hb3 gf1 gl); (try replace gl := Nat.lt_of_lt_of_le gl hb3.size); (try (have gx := (by first | with_reducible exact newvar ha3 | with_reducible exact newvard ha3 | with_reducible exact newvare ha3 : NewVar w2 w3); have ga0 := gx.1; have ga1 := gx.2.1; have gf0 := gx.2.2.1; have gf1 := gx.2.2.2.1; have gl := gx.2.2.2.2; have gge := gB.out.size; have gn0 := Nat.ne_of_lt l0; have gn1 := Nat.ne_of_lt l1; have gn2 := Nat.ne_of_lt l2; clear gx)); replace gB := Lib.hid (onto gB.out hb3); replace s0_0 := keepc hb3 s0_0 l0; replace s0_1 := keepc hb3 s0_1 l0; replace s0_2 := keepc hb3 s0_2 l0; replace s0_3 := keepc hb3 s0_3 l0; replace s0_4 := keepc hb3 s0_4 l0; replace s1_0 := keepc hb3 s1_0 l1; replace s1_1 := keepc hb3 s1_1 l1; replace s1_2 := keepc hb3 s1_2 l1; replace s1_3 := keepc hb3 s1_3 l1; replace s1_4 := keepc hb3 s1_4 l1; replace r0 := keepc hb3 r0 l2; replace f0 := keepf hb3 f0 l2; replace r1 := keepc hb3 r1 l2; replace f1 := keepf hb3 f1 l2; replace r2 := keepc hb3 r2 l2; replace f2 := keepf hb3 f2 l2; replace r3 := keepc hb3 r3 l2; replace f3 := keepf hb3 f3 l2; replace r4 := keepc hb3 r4 l2; replace f4 := keepf hb3 f4 l2; replace l0 := Nat.lt_of_lt_of_le l0 hb3.size; replace l1 := Nat.lt_of_lt_of_le l1 hb3.size; replace l2 := Nat.lt_of_lt_of_le l2 hb3.size; replace hx1 := hx1.to hb3; replace hx2 := hx2.to hb3; replace hx3 := hx3.to hb3; replace hy1 := hy1.to hb3; replace hy2 := hy2.to hb3; replace hy3 := hy3.to hb3; replace h2 := h2.to hb3; replace HW := Lib.hid (hstep HW hb3); clear hb3; clear ha3)
      | (go_at_call 98; refine (plus_any (na y * na y) (nb y * nb y) S2 S3 _ (by first | with_reducible exact h2 | with_reducible exact h2.alloc _ | exact h2 | exact h2.alloc _) (by first | with_reducible exact h3 | with_reducible exact h3.alloc _ | exact h3 | exact h3.alloc _) (by have h := (ab_mul_ln HSY.out.1 HSY.out.1); omega) (by have h := (ab_mul_ln HSY.out.2.1 HSY.out.2.1); omega)).mono ?_; rintro e w4 ⟨S4, rfl, h4, ha4⟩; have hb4 : Below w3.heap.size w3 w4 := (by first | with_reducible exact ha4 | with_reducible exact undrew ha4 | with_reducible exact unalloc ha4 | with_reducible exact undrewalloc ha4 | with_reducible exact undrew (unalloc ha4)); (try replace ga0 := keepc hb4 ga0 gl); (try replace ga1 := keepc hb4 ga1 gl); (try replace gf0 := keepf hb4 gf0 gl); (try replace gf1 := keepf hb4 gf1 gl); (try replace gl := Nat.lt_of_lt_of_le gl hb4.size); (try (have gx := (by first | with_reducible exact newvar ha4 | with_reducible exact newvard ha4 | with_reducible exact newvare ha4 : NewVar w3 w4); have ga0 := gx.1; have ga1 := gx.2.1; have gf0 := gx.2.2.1; have gf1 := gx.2.2.2.1; have gl := gx.2.2.2.2; have gge := gB.out.size; have gn0 := Nat.ne_of_lt l0; have gn1 := Nat.ne_of_lt l1; have gn2 := Nat.ne_of_lt l2; clear gx)); replace gB := Lib.hid (onto gB.out hb4); replace s0_0 := keepc hb4 s0_0 l0; replace s0_1 := keepc hb4 s0_1 l0; replace s0_2 := keepc hb4 s0_2 l0; replace s0_3 := keepc hb4 s0_3 l0; replace s0_4 := keepc hb4 s0_4 l0; replace s1_0 := keepc hb4 s1_0 l1; replace s1_1 := keepc hb4 s1_1 l1; replace s1_2 := keepc hb4 s1_2 l1; replace s1_3 := keepc hb4 s1_3 l1; replace s1_4 := keepc hb4 s1_4 l1; replace r0 := keepc hb4 r0 l2; replace f0 := keepf hb4 f0 l2; replace r1 := keepc hb4 r1 l2; replace f1 := keepf hb4 f1 l2; replace r2 := keepc hb4 r2 l2; replace f2 := keepf hb4 f2 l2; replace r3 := keepc hb4 r3 l2; replace f3 := keepf hb4 f3 l2; replace r4 := keepc hb4 r4 l2; replace f4 := keepf hb4 f4 l2; replace l0 := Nat.lt_of_lt_of_le l0 hb4.size; replace l1 := Nat.lt_of_lt_of_le l1 hb4.size; replace l2 := Nat.lt_of_lt_of_le l2 hb4.size; replace hx1 := hx1.to hb4; replace hx2 := hx2.to hb4; replace hx3 := hx3.to hb4; replace hy1 := hy1.to hb4; replace hy2 := hy2.to hb4; replace hy3 := hy3.to hb4; replace h2 := h2.to hb4; replace h3 := h3.to hb4; replace HW := Lib.hid (hstep HW hb4); clear hb4; clear ha4))
    all_goals
      go_wp2_with fail
      go_meet
      first | exact varWhole_set gB.out ga0 ga1 gf0 gf1 h4 gge gl | exact varWhole_new gB.out h4
  case rest =>
  obtain ⟨g0, V0, hp0, t0_0, t0_1, u0_0, u0_1, hv0, hg0, l100, hb2⟩ := hcut
  subst hp0
  have n100 : g0 ≠ w.heap.size + 1 + 1 := by omega
  obtain ⟨w2, rfl⟩ : ∃ X : World, X = wc := ⟨_, rfl⟩
  replace s0_0 := keepc hb2 s0_0 l0
  replace s0_1 := keepc hb2 s0_1 l0
  replace s0_2 := keepc hb2 s0_2 l0
  replace s0_3 := keepc hb2 s0_3 l0
  replace s0_4 := keepc hb2 s0_4 l0
  replace s1_0 := keepc hb2 s1_0 l1
  replace s1_1 := keepc hb2 s1_1 l1
  replace s1_2 := keepc hb2 s1_2 l1
  replace s1_3 := keepc hb2 s1_3 l1
  replace s1_4 := keepc hb2 s1_4 l1
  replace r0 := keepc hb2 r0 l2
  replace f0 := keepf hb2 f0 l2
  replace r1 := keepc hb2 r1 l2
  replace f1 := keepf hb2 f1 l2
  replace r2 := keepc hb2 r2 l2
  replace f2 := keepf hb2 f2 l2
  replace r3 := keepc hb2 r3 l2
  replace f3 := keepf hb2 f3 l2
  replace r4 := keepc hb2 r4 l2
  replace f4 := keepf hb2 f4 l2
  replace l0 := Nat.lt_of_lt_of_le l0 hb2.size
  replace l1 := Nat.lt_of_lt_of_le l1 hb2.size
  replace l2 := Nat.lt_of_lt_of_le l2 hb2.size
  replace hx1 := hx1.to hb2
  replace hx2 := hx2.to hb2
  replace hx3 := hx3.to hb2
  replace hy1 := hy1.to hb2
  replace hy2 := hy2.to hb2
  replace hy3 := hy3.to hb2
  replace HW := Lib.hid (hstep HW hb2)
  clear hb2
  go_upto_region 4 with fail
  go_cut [7] (fun p wx => VarNum w2 (x.mul (fr (na y) (-nb y) 1)) p wx)
  case first =>
    have gB : Hid (Below w2.heap.size w2 w2) := Lib.hid (Below.refl _ _)
    go_region_held3 (fun w' => w'.cell? ⟨w.heap.size, 0, none⟩ = some (.bool (sn (na x))) ∧ w'.cell? ⟨w.heap.size, 1, none⟩ = some (.slice A1 (ln (ab (na x))) (ln (ab (na x)))) ∧ w'.cell? ⟨w.heap.size, 2, none⟩ = some (.bool (sn (nb x))) ∧ w'.cell? ⟨w.heap.size, 3, none⟩ = some (.slice A2 (ln (ab (nb x))) (ln (ab (nb x)))) ∧ w'.cell? ⟨w.heap.size, 4, none⟩ = some (.slice A3 (ln (un x)) (ln (un x))) ∧ w'.cell? ⟨w.heap.size + 1, 0, none⟩ = some (.bool (sn (na y))) ∧ w'.cell? ⟨w.heap.size + 1, 1, none⟩ = some (.slice B1 (ln (ab (na y))) (ln (ab (na y)))) ∧ w'.cell? ⟨w.heap.size + 1, 2, none⟩ = some (.bool (sn (nb y))) ∧ w'.cell? ⟨w.heap.size + 1, 3, none⟩ = some (.slice B2 (ln (ab (nb y))) (ln (ab (nb y))))) (first | with_reducible exact ⟨s0_0, s0_1, s0_2, s0_3, s0_4, s1_0, s1_1, s1_2, s1_3⟩ | with_reducible exact ⟨(keepa s0_0 l0), (keepa s0_1 l0), (keepa s0_2 l0), (keepa s0_3 l0), (keepa s0_4 l0), (keepa s1_0 l1), (keepa s1_1 l1), (keepa s1_2 l1), (keepa s1_3 l1)⟩ | with_reducible exact ⟨(keepa (keepa s0_0 l0) (lta l0)), (keepa (keepa s0_1 l0) (lta l0)), (keepa (keepa s0_2 l0) (lta l0)), (keepa (keepa s0_3 l0) (lta l0)), (keepa (keepa s0_4 l0) (lta l0)), (keepa (keepa s1_0 l1) (lta l1)), (keepa (keepa s1_1 l1) (lta l1)), (keepa (keepa s1_2 l1) (lta l1)), (keepa (keepa s1_3 l1) (lta l1))⟩ | with_reducible exact ⟨(keepd s0_0), (keepd s0_1), (keepd s0_2), (keepd s0_3), (keepd s0_4), (keepd s1_0), (keepd s1_1), (keepd s1_2), (keepd s1_3)⟩ | with_reducible exact ⟨(keepd (keepa s0_0 l0)), (keepd (keepa s0_1 l0)), (keepd (keepa s0_2 l0)), (keepd (keepa s0_3 l0)), (keepd (keepa s0_4 l0)), (keepd (keepa s1_0 l1)), (keepd (keepa s1_1 l1)), (keepd (keepa s1_2 l1)), (keepd (keepa s1_3 l1))⟩ | with_reducible exact ⟨(keepd (keepa (keepa s0_0 l0) (lta l0))), (keepd (keepa (keepa s0_1 l0) (lta l0))), (keepd (keepa (keepa s0_2 l0) (lta l0))), (keepd (keepa (keepa s0_3 l0) (lta l0))), (keepd (keepa (keepa s0_4 l0) (lta l0))), (keepd (keepa (keepa s1_0 l1) (lta l1))), (keepd (keepa (keepa s1_1 l1) (lta l1))), (keepd (keepa (keepa s1_2 l1) (lta l1))), (keepd (keepa (keepa s1_3 l1) (lta l1)))⟩ | (have _ := gx; with_reducible exact ⟨(keeps (keeps (keeps (keeps (keeps s0_0 gn0) gn0) gn0) gn0) gn0), (keeps (keeps (keeps (keeps (keeps s0_1 gn0) gn0) gn0) gn0) gn0), (keeps (keeps (keeps (keeps (keeps s0_2 gn0) gn0) gn0) gn0) gn0), (keeps (keeps (keeps (keeps (keeps s0_3 gn0) gn0) gn0) gn0) gn0), (keeps (keeps (keeps (keeps (keeps s0_4 gn0) gn0) gn0) gn0) gn0), (keeps (keeps (keeps (keeps (keeps s1_0 gn1) gn1) gn1) gn1) gn1), (keeps (keeps (keeps (keeps (keeps s1_1 gn1) gn1) gn1) gn1) gn1), (keeps (keeps (keeps (keeps (keeps s1_2 gn1) gn1) gn1) gn1) gn1), (keeps (keeps (keeps (keeps (keeps s1_3 gn1) gn1) gn1) gn1) gn1)⟩)) (first
      | (go_at_call 105; refine (minus_any (nb y) B2 _ (by first | with_reducible exact hy2 | with_reducible exact hy2.alloc _ | with_reducible exact (hy2.alloc _).alloc _ | exact hy2 | exact hy2.alloc _ | exact (hy2.alloc _).alloc _)).mono ?_; rintro e w3 ⟨S3, rfl, h3, ha⟩; have hb3 : Below w2.heap.size w2 w3 := (by first | with_reducible exact ha | with_reducible exact undrew ha | with_reducible exact unalloc ha | with_reducible exact undrewalloc ha | with_reducible exact unalloc (unalloc ha) | with_reducible exact unalloc (undrewalloc ha) | with_reducible exact undrew (unalloc ha) | with_reducible exact undrew (unalloc (unalloc ha))); (try replace q1 := q1.to hb3); (try replace gx := gx.to hb3); (try first | (with_reducible have q1 := newnat1 ha) | (with_reducible have q1 := newnat1 (undrew ha)) | (with_reducible have q1 := newnat ha) | (with_reducible have q1 := newnat (undrew ha)) | (with_reducible have q1 := newnat (unalloc ha)) | (with_reducible have q1 := newnat (undrewalloc ha))); (try ((first | (with_reducible have gx := newvarN1 ha) | (with_reducible have gx := newvarN1 (undrew ha)) | (with_reducible have gx := newvarN ha) | (with_reducible have gx := newvarN (undrew ha)) | (with_reducible have gx := newvarN (unalloc ha)) | (with_reducible have gx := newvarN (undrewalloc ha))); have gn0 := Nat.ne_of_lt (Nat.lt_of_lt_of_le l0 gx.1); have gn1 := Nat.ne_of_lt (Nat.lt_of_lt_of_le l1 gx.1); have gn2 := Nat.ne_of_lt (Nat.lt_of_lt_of_le l2 gx.1); have gn100 := Nat.ne_of_lt (Nat.lt_of_lt_of_le l100 gx.1); have gge := Nat.le_trans gB.out.size gx.1)); replace gB := Lib.hid (onto gB.out hb3); replace s0_0 := keepc hb3 s0_0 l0; replace s0_1 := keepc hb3 s0_1 l0; replace s0_2 := keepc hb3 s0_2 l0; replace s0_3 := keepc hb3 s0_3 l0; replace s0_4 := keepc hb3 s0_4 l0; replace s1_0 := keepc hb3 s1_0 l1; replace s1_1 := keepc hb3 s1_1 l1; replace s1_2 := keepc hb3 s1_2 l1; replace s1_3 := keepc hb3 s1_3 l1; replace s1_4 := keepc hb3 s1_4 l1; replace t0_0 := keepc hb3 t0_0 l100; replace t0_1 := keepc hb3 t0_1 l100; replace r0 := keepc hb3 r0 l2; replace f0 := keepf hb3 f0 l2; replace r1 := keepc hb3 r1 l2; replace f1 := keepf hb3 f1 l2; replace r2 := keepc hb3 r2 l2; replace f2 := keepf hb3 f2 l2; replace r3 := keepc hb3 r3 l2; replace f3 := keepf hb3 f3 l2; replace r4 := keepc hb3 r4 l2; replace f4 := keepf hb3 f4 l2; replace l0 := Nat.lt_of_lt_of_le l0 hb3.size; replace l1 := Nat.lt_of_lt_of_le l1 hb3.size; replace l2 := Nat.lt_of_lt_of_le l2 hb3.size; replace l100 := Nat.lt_of_lt_of_le l100 hb3.size; replace hx1 := hx1.to hb3; replace hx2 := hx2.to hb3; replace hx3 := hx3.to hb3; replace hy1 := hy1.to hb3; replace hy2 := hy2.to hb3; replace hy3 := hy3.to hb3; replace hv0 := hv0.to hb3; replace HW := Lib.hid (hstep HW hb3); clear hb3; clear ha)
      | (go_at_call 96; refine (over1_any (na y) (-nb y) B1 S3 _ _ (by first | with_reducible exact hy1 | with_reducible exact hy1.alloc _ | with_reducible exact (hy1.alloc _).alloc _ | exact hy1 | exact hy1.alloc _ | exact (hy1.alloc _).alloc _) (by first | with_reducible exact h3 | with_reducible exact h3.alloc _ | with_reducible exact (h3.alloc _).alloc _ | exact h3 | exact h3.alloc _ | exact (h3.alloc _).alloc _) (by first | with_reducible exact q1 | with_reducible exact q1.alloc _ | with_reducible exact nat1_new _ _ | with_reducible exact (nat1_new _ _).alloc _ | with_reducible exact nat1_new1 _ _ _) (by have := HSY.out; unfold sz at this; omega) (by rw [ab_neg]; have := HSY.out.2.1; omega)).mono ?_; rintro e w4 ⟨P1, P2, P3, rfl, h4, ha⟩; have hb4 : Below w3.heap.size w3 w4 := (by first | with_reducible exact ha | with_reducible exact undrew ha | with_reducible exact unalloc ha | with_reducible exact undrewalloc ha | with_reducible exact unalloc (unalloc ha) | with_reducible exact unalloc (undrewalloc ha) | with_reducible exact undrew (unalloc ha) | with_reducible exact undrew (unalloc (unalloc ha))); (try replace q1 := q1.to hb4); (try replace gx := gx.to hb4); (try first | (with_reducible have q1 := newnat1 ha) | (with_reducible have q1 := newnat1 (undrew ha)) | (with_reducible have q1 := newnat ha) | (with_reducible have q1 := newnat (undrew ha)) | (with_reducible have q1 := newnat (unalloc ha)) | (with_reducible have q1 := newnat (undrewalloc ha))); (try ((first | (with_reducible have gx := newvarN1 ha) | (with_reducible have gx := newvarN1 (undrew ha)) | (with_reducible have gx := newvarN ha) | (with_reducible have gx := newvarN (undrew ha)) | (with_reducible have gx := newvarN (unalloc ha)) | (with_reducible have gx := newvarN (undrewalloc ha))); have gn0 := Nat.ne_of_lt (Nat.lt_of_lt_of_le l0 gx.1); have gn1 := Nat.ne_of_lt (Nat.lt_of_lt_of_le l1 gx.1); have gn2 := Nat.ne_of_lt (Nat.lt_of_lt_of_le l2 gx.1); have gn100 := Nat.ne_of_lt (Nat.lt_of_lt_of_le l100 gx.1); have gge := Nat.le_trans gB.out.size gx.1)); replace gB := Lib.hid (onto gB.out hb4); replace s0_0 := keepc hb4 s0_0 l0; replace s0_1 := keepc hb4 s0_1 l0; replace s0_2 := keepc hb4 s0_2 l0; replace s0_3 := keepc hb4 s0_3 l0; replace s0_4 := keepc hb4 s0_4 l0; replace s1_0 := keepc hb4 s1_0 l1; replace s1_1 := keepc hb4 s1_1 l1; replace s1_2 := keepc hb4 s1_2 l1; replace s1_3 := keepc hb4 s1_3 l1; replace s1_4 := keepc hb4 s1_4 l1; replace t0_0 := keepc hb4 t0_0 l100; replace t0_1 := keepc hb4 t0_1 l100; replace r0 := keepc hb4 r0 l2; replace f0 := keepf hb4 f0 l2; replace r1 := keepc hb4 r1 l2; replace f1 := keepf hb4 f1 l2; replace r2 := keepc hb4 r2 l2; replace f2 := keepf hb4 f2 l2; replace r3 := keepc hb4 r3 l2; replace f3 := keepf hb4 f3 l2; replace r4 := keepc hb4 r4 l2; replace f4 := keepf hb4 f4 l2; replace l0 := Nat.lt_of_lt_of_le l0 hb4.size; replace l1 := Nat.lt_of_lt_of_le l1 hb4.size; replace l2 := Nat.lt_of_lt_of_le l2 hb4.size; replace l100 := Nat.lt_of_lt_of_le l100 hb4.size; replace hx1 := hx1.to hb4; replace hx2 := hx2.to hb4; replace hx3 := hx3.to hb4; replace hy1 := hy1.to hb4; replace hy2 := hy2.to hb4; replace hy3 := hy3.to hb4; replace hv0 := hv0.to hb4; replace h3 := h3.to hb4; replace HW := Lib.hid (hstep HW hb4); clear hb4; clear ha)
      | (go_at_call 30; refine (mul_num x (fr (na y) (-nb y) 1) A1 A2 A3 P1 P2 P3 _ (by first | with_reducible exact num3_mk hx1 hx2 hx3 | with_reducible exact num3_mk (hx1.alloc _) (hx2.alloc _) (hx3.alloc _) | with_reducible exact num3_mk ((hx1.alloc _).alloc _) ((hx2.alloc _).alloc _) ((hx3.alloc _).alloc _)) (by first | with_reducible exact h4 | with_reducible exact num3_alloc h4) HSX.out (fr_sz (by omega) HSY.out.1 (by rw [ab_neg]; exact HSY.out.2.1) (by rw [ln_one]; omega))).mono ?_; rintro e w5 ⟨Z1, Z2, Z3, rfl, z5, ha⟩; have hb5 : Below w4.heap.size w4 w5 := (by first | with_reducible exact ha | with_reducible exact undrew ha | with_reducible exact unalloc ha | with_reducible exact undrewalloc ha | with_reducible exact unalloc (unalloc ha) | with_reducible exact unalloc (undrewalloc ha) | with_reducible exact undrew (unalloc ha) | with_reducible exact undrew (unalloc (unalloc ha))); (try replace q1 := q1.to hb5); (try replace gx := gx.to hb5); (try first | (with_reducible have q1 := newnat1 ha) | (with_reducible have q1 := newnat1 (undrew ha)) | (with_reducible have q1 := newnat ha) | (with_reducible have q1 := newnat (undrew ha)) | (with_reducible have q1 := newnat (unalloc ha)) | (with_reducible have q1 := newnat (undrewalloc ha))); (try ((first | (with_reducible have gx := newvarN1 ha) | (with_reducible have gx := newvarN1 (undrew ha)) | (with_reducible have gx := newvarN ha) | (with_reducible have gx := newvarN (undrew ha)) | (with_reducible have gx := newvarN (unalloc ha)) | (with_reducible have gx := newvarN (undrewalloc ha))); have gn0 := Nat.ne_of_lt (Nat.lt_of_lt_of_le l0 gx.1); have gn1 := Nat.ne_of_lt (Nat.lt_of_lt_of_le l1 gx.1); have gn2 := Nat.ne_of_lt (Nat.lt_of_lt_of_le l2 gx.1); have gn100 := Nat.ne_of_lt (Nat.lt_of_lt_of_le l100 gx.1); have gge := Nat.le_trans gB.out.size gx.1)); replace gB := Lib.hid (onto gB.out hb5); replace s0_0 := keepc hb5 s0_0 l0; replace s0_1 := keepc hb5 s0_1 l0; replace s0_2 := keepc hb5 s0_2 l0; replace s0_3 := keepc hb5 s0_3 l0; replace s0_4 := keepc hb5 s0_4 l0; replace s1_0 := keepc hb5 s1_0 l1; replace s1_1 := keepc hb5 s1_1 l1; replace s1_2 := keepc hb5 s1_2 l1; replace s1_3 := keepc hb5 s1_3 l1; replace s1_4 := keepc hb5 s1_4 l1; replace t0_0 := keepc hb5 t0_0 l100; replace t0_1 := keepc hb5 t0_1 l100; replace r0 := keepc hb5 r0 l2; replace f0 := keepf hb5 f0 l2; replace r1 := keepc hb5 r1 l2; replace f1 := keepf hb5 f1 l2; replace r2 := keepc hb5 r2 l2; replace f2 := keepf hb5 f2 l2; replace r3 := keepc hb5 r3 l2; replace f3 := keepf hb5 f3 l2; replace r4 := keepc hb5 r4 l2; replace f4 := keepf hb5 f4 l2; replace l0 := Nat.lt_of_lt_of_le l0 hb5.size; replace l1 := Nat.lt_of_lt_of_le l1 hb5.size; replace l2 := Nat.lt_of_lt_of_le l2 hb5.size; replace l100 := Nat.lt_of_lt_of_le l100 hb5.size; replace hx1 := hx1.to hb5; replace hx2 := hx2.to hb5; replace hx3 := hx3.to hb5; replace hy1 := hy1.to hb5; replace hy2 := hy2.to hb5; replace hy3 := hy3.to hb5; replace hv0 := hv0.to hb5; replace h3 := h3.to hb5; replace h4 := h4.to hb5; replace HW := Lib.hid (hstep HW hb5); clear hb5; (try (have gy := gx; obtain ⟨_, _, ⟨ga0, ga1, ga2, ga3, ga4⟩, gf0, gf1, gf2, gf3, gf4⟩ := gy)); clear ha))
    all_goals
      go_wp2_with fail
      go_meet
      first | with_reducible exact varNum_set gB.out gx gge z5 | with_reducible exact varNum_new gB.out z5
  case rest =>
  obtain ⟨g1, V11, V12, V13, hp1, ⟨t1_0, t1_1, t1_2, t1_3, t1_4⟩, hv1, hg1, l101, hb3⟩ := hcut
  obtain ⟨hv11, hv12, hv13⟩ := hv1
  subst hp1
  have n101 : g1 ≠ w.heap.size + 1 + 1 := by omega
  obtain ⟨w3, rfl⟩ : ∃ X : World, X = wc := ⟨_, rfl⟩
  replace s0_0 := keepc hb3 s0_0 l0
  replace s0_1 := keepc hb3 s0_1 l0
  replace s0_2 := keepc hb3 s0_2 l0
  replace s0_3 := keepc hb3 s0_3 l0
  replace s0_4 := keepc hb3 s0_4 l0
  replace s1_0 := keepc hb3 s1_0 l1
  replace s1_1 := keepc hb3 s1_1 l1
  replace s1_2 := keepc hb3 s1_2 l1
  replace s1_3 := keepc hb3 s1_3 l1
  replace s1_4 := keepc hb3 s1_4 l1
  replace t0_0 := keepc hb3 t0_0 l100
  replace t0_1 := keepc hb3 t0_1 l100
  replace r0 := keepc hb3 r0 l2
  replace f0 := keepf hb3 f0 l2
  replace r1 := keepc hb3 r1 l2
  replace f1 := keepf hb3 f1 l2
  replace r2 := keepc hb3 r2 l2
  replace f2 := keepf hb3 f2 l2
  replace r3 := keepc hb3 r3 l2
  replace f3 := keepf hb3 f3 l2
  replace r4 := keepc hb3 r4 l2
  replace f4 := keepf hb3 f4 l2
  replace l0 := Nat.lt_of_lt_of_le l0 hb3.size
  replace l1 := Nat.lt_of_lt_of_le l1 hb3.size
  replace l2 := Nat.lt_of_lt_of_le l2 hb3.size
  replace l100 := Nat.lt_of_lt_of_le l100 hb3.size
  replace hx1 := hx1.to hb3
  replace hx2 := hx2.to hb3
  replace hx3 := hx3.to hb3
  replace hy1 := hy1.to hb3
  replace hy2 := hy2.to hb3
  replace hy3 := hy3.to hb3
  replace hv0 := hv0.to hb3
  replace HW := Lib.hid (hstep HW hb3)
  clear hb3
  have HSZ : Hid (sz 274877906945 (x.mul (fr (na y) (-nb y) 1))) := Lib.hid (sz_mul HSX.out (fr_sz (by omega) HSY.out.1 (by rw [ab_neg]; exact HSY.out.2.1) (by rw [ln_one]; omega)))
  go_wp2_with fail
  go_region_held3 (fun w' => w'.cell? ⟨w.heap.size + 1, 0, none⟩ = some (.bool (sn (na y))) ∧ w'.cell? ⟨w.heap.size + 1, 1, none⟩ = some (.slice B1 (ln (ab (na y))) (ln (ab (na y)))) ∧ w'.cell? ⟨w.heap.size + 1, 2, none⟩ = some (.bool (sn (nb y))) ∧ w'.cell? ⟨w.heap.size + 1, 3, none⟩ = some (.slice B2 (ln (ab (nb y))) (ln (ab (nb y)))) ∧ w'.cell? ⟨w.heap.size + 1, 4, none⟩ = some (.slice B3 (ln (un y)) (ln (un y))) ∧ w'.cell? ⟨g0, 1, none⟩ = some (.slice V0 (ln (ab (na y * na y + nb y * nb y))) (ln (ab (na y * na y + nb y * nb y)))) ∧ w'.cell? ⟨g1, 0, none⟩ = some (.bool (sn (na (x.mul (fr (na y) (-nb y) 1))))) ∧ w'.cell? ⟨g1, 1, none⟩ = some (.slice V11 (ln (ab (na (x.mul (fr (na y) (-nb y) 1))))) (ln (ab (na (x.mul (fr (na y) (-nb y) 1)))))) ∧ w'.cell? ⟨g1, 2, none⟩ = some (.bool (sn (nb (x.mul (fr (na y) (-nb y) 1))))) ∧ w'.cell? ⟨g1, 3, none⟩ = some (.slice V12 (ln (ab (nb (x.mul (fr (na y) (-nb y) 1))))) (ln (ab (nb (x.mul (fr (na y) (-nb y) 1)))))) ∧ w'.cell? ⟨g1, 4, none⟩ = some (.slice V13 (ln (un (x.mul (fr (na y) (-nb y) 1)))) (ln (un (x.mul (fr (na y) (-nb y) 1)))))) (first | with_reducible exact ⟨s1_0, s1_1, s1_2, s1_3, s1_4, t0_1, t1_0, t1_1, t1_2, t1_3, t1_4⟩ | with_reducible exact ⟨(keeps (keeps (keeps (keeps (keeps s1_0 n1) n1) n1) n1) n1), (keeps (keeps (keeps (keeps (keeps s1_1 n1) n1) n1) n1) n1), (keeps (keeps (keeps (keeps (keeps s1_2 n1) n1) n1) n1) n1), (keeps (keeps (keeps (keeps (keeps s1_3 n1) n1) n1) n1) n1), (keeps (keeps (keeps (keeps (keeps s1_4 n1) n1) n1) n1) n1), (keeps (keeps (keeps (keeps (keeps t0_1 n100) n100) n100) n100) n100), (keeps (keeps (keeps (keeps (keeps t1_0 n101) n101) n101) n101) n101), (keeps (keeps (keeps (keeps (keeps t1_1 n101) n101) n101) n101) n101), (keeps (keeps (keeps (keeps (keeps t1_2 n101) n101) n101) n101) n101), (keeps (keeps (keeps (keeps (keeps t1_3 n101) n101) n101) n101) n101), (keeps (keeps (keeps (keeps (keeps t1_4 n101) n101) n101) n101) n101)⟩ | exact ⟨s1_0, s1_1, s1_2, s1_3, s1_4, t0_1, t1_0, t1_1, t1_2, t1_3, t1_4⟩) (first
    | (have _ := d1; go_at_call_of 89 (Value.agg #[.bool (sn (na y)), .slice B1 (ln (ab (na y))) (ln (ab (na y))), .bool (sn (nb y)), .slice B2 (ln (ab (nb y))) (ln (ab (nb y))), .slice B3 (ln (un y)) (ln (un y))]); refine (den_any y B1 B2 B3 _ (by exact num3_mk hy1 hy2 hy3)).mono ?_; rintro e w6 ⟨D3, rfl, d3, hb6⟩; replace s0_0 := keepc hb6 s0_0 l0; replace s0_1 := keepc hb6 s0_1 l0; replace s0_2 := keepc hb6 s0_2 l0; replace s0_3 := keepc hb6 s0_3 l0; replace s0_4 := keepc hb6 s0_4 l0; replace s1_0 := keepc hb6 s1_0 l1; replace s1_1 := keepc hb6 s1_1 l1; replace s1_2 := keepc hb6 s1_2 l1; replace s1_3 := keepc hb6 s1_3 l1; replace s1_4 := keepc hb6 s1_4 l1; replace t0_0 := keepc hb6 t0_0 l100; replace t0_1 := keepc hb6 t0_1 l100; replace t1_0 := keepc hb6 t1_0 l101; replace t1_1 := keepc hb6 t1_1 l101; replace t1_2 := keepc hb6 t1_2 l101; replace t1_3 := keepc hb6 t1_3 l101; replace t1_4 := keepc hb6 t1_4 l101; replace r0 := keepc hb6 r0 l2; replace f0 := keepf hb6 f0 l2; replace r1 := keepc hb6 r1 l2; replace f1 := keepf hb6 f1 l2; replace r2 := keepc hb6 r2 l2; replace f2 := keepf hb6 f2 l2; replace r3 := keepc hb6 r3 l2; replace f3 := keepf hb6 f3 l2; replace r4 := keepc hb6 r4 l2; replace f4 := keepf hb6 f4 l2; replace l0 := Nat.lt_of_lt_of_le l0 hb6.size; replace l1 := Nat.lt_of_lt_of_le l1 hb6.size; replace l2 := Nat.lt_of_lt_of_le l2 hb6.size; replace l100 := Nat.lt_of_lt_of_le l100 hb6.size; replace l101 := Nat.lt_of_lt_of_le l101 hb6.size; replace hx1 := hx1.to hb6; replace hx2 := hx2.to hb6; replace hx3 := hx3.to hb6; replace hy1 := hy1.to hb6; replace hy2 := hy2.to hb6; replace hy3 := hy3.to hb6; replace hv0 := hv0.to hb6; replace hv11 := hv11.to hb6; replace hv12 := hv12.to hb6; replace hv13 := hv13.to hb6; replace d1 := d1.to hb6; replace d2 := d2.to hb6; replace HW := Lib.hid (hstep HW hb6); clear hb6)
    | (go_at_call_of 89 (Value.agg #[.bool (sn (na y)), .slice B1 (ln (ab (na y))) (ln (ab (na y))), .bool (sn (nb y)), .slice B2 (ln (ab (nb y))) (ln (ab (nb y))), .slice B3 (ln (un y)) (ln (un y))]); refine (den_any y B1 B2 B3 _ (by exact num3_mk hy1 hy2 hy3)).mono ?_; rintro e w4 ⟨D1, rfl, d1, hb4⟩; have hb4 := undrew hb4; replace s0_0 := keepc hb4 s0_0 l0; replace s0_1 := keepc hb4 s0_1 l0; replace s0_2 := keepc hb4 s0_2 l0; replace s0_3 := keepc hb4 s0_3 l0; replace s0_4 := keepc hb4 s0_4 l0; replace s1_0 := keepc hb4 s1_0 l1; replace s1_1 := keepc hb4 s1_1 l1; replace s1_2 := keepc hb4 s1_2 l1; replace s1_3 := keepc hb4 s1_3 l1; replace s1_4 := keepc hb4 s1_4 l1; replace t0_0 := keepc hb4 t0_0 l100; replace t0_1 := keepc hb4 t0_1 l100; replace t1_0 := keepc hb4 t1_0 l101; replace t1_1 := keepc hb4 t1_1 l101; replace t1_2 := keepc hb4 t1_2 l101; replace t1_3 := keepc hb4 t1_3 l101; replace t1_4 := keepc hb4 t1_4 l101; replace r0 := keepc hb4 r0 l2; replace f0 := keepf hb4 f0 l2; replace r1 := keepc hb4 r1 l2; replace f1 := keepf hb4 f1 l2; replace r2 := keepc hb4 r2 l2; replace f2 := keepf hb4 f2 l2; replace r3 := keepc hb4 r3 l2; replace f3 := keepf hb4 f3 l2; replace r4 := keepc hb4 r4 l2; replace f4 := keepf hb4 f4 l2; replace l0 := Nat.lt_of_lt_of_le l0 hb4.size; replace l1 := Nat.lt_of_lt_of_le l1 hb4.size; replace l2 := Nat.lt_of_lt_of_le l2 hb4.size; replace l100 := Nat.lt_of_lt_of_le l100 hb4.size; replace l101 := Nat.lt_of_lt_of_le l101 hb4.size; replace hx1 := hx1.to hb4; replace hx2 := hx2.to hb4; replace hx3 := hx3.to hb4; replace hy1 := hy1.to hb4; replace hy2 := hy2.to hb4; replace hy3 := hy3.to hb4; replace hv0 := hv0.to hb4; replace hv11 := hv11.to hb4; replace hv12 := hv12.to hb4; replace hv13 := hv13.to hb4; replace HW := Lib.hid (hstep HW hb4); clear hb4)
    | (go_at_call_of 97 (Value.slice V11 (ln (ab (na (x.mul (fr (na y) (-nb y) 1))))) (ln (ab (na (x.mul (fr (na y) (-nb y) 1)))))); refine (scaled_any (na (x.mul (fr (na y) (-nb y) 1))) (nd y) V11 D1 _ (by exact hv11) (by exact d1) (by have := HSZ.out; unfold sz at this; omega) (by have := HSY.out; unfold sz at this; omega)).mono ?_; rintro e w5 ⟨E2, rfl, d2, hb5⟩; replace s0_0 := keepc hb5 s0_0 l0; replace s0_1 := keepc hb5 s0_1 l0; replace s0_2 := keepc hb5 s0_2 l0; replace s0_3 := keepc hb5 s0_3 l0; replace s0_4 := keepc hb5 s0_4 l0; replace s1_0 := keepc hb5 s1_0 l1; replace s1_1 := keepc hb5 s1_1 l1; replace s1_2 := keepc hb5 s1_2 l1; replace s1_3 := keepc hb5 s1_3 l1; replace s1_4 := keepc hb5 s1_4 l1; replace t0_0 := keepc hb5 t0_0 l100; replace t0_1 := keepc hb5 t0_1 l100; replace t1_0 := keepc hb5 t1_0 l101; replace t1_1 := keepc hb5 t1_1 l101; replace t1_2 := keepc hb5 t1_2 l101; replace t1_3 := keepc hb5 t1_3 l101; replace t1_4 := keepc hb5 t1_4 l101; replace r0 := keepc hb5 r0 l2; replace f0 := keepf hb5 f0 l2; replace r1 := keepc hb5 r1 l2; replace f1 := keepf hb5 f1 l2; replace r2 := keepc hb5 r2 l2; replace f2 := keepf hb5 f2 l2; replace r3 := keepc hb5 r3 l2; replace f3 := keepf hb5 f3 l2; replace r4 := keepc hb5 r4 l2; replace f4 := keepf hb5 f4 l2; replace l0 := Nat.lt_of_lt_of_le l0 hb5.size; replace l1 := Nat.lt_of_lt_of_le l1 hb5.size; replace l2 := Nat.lt_of_lt_of_le l2 hb5.size; replace l100 := Nat.lt_of_lt_of_le l100 hb5.size; replace l101 := Nat.lt_of_lt_of_le l101 hb5.size; replace hx1 := hx1.to hb5; replace hx2 := hx2.to hb5; replace hx3 := hx3.to hb5; replace hy1 := hy1.to hb5; replace hy2 := hy2.to hb5; replace hy3 := hy3.to hb5; replace hv0 := hv0.to hb5; replace hv11 := hv11.to hb5; replace hv12 := hv12.to hb5; replace hv13 := hv13.to hb5; replace d1 := d1.to hb5; replace HW := Lib.hid (hstep HW hb5); clear hb5)
    | (go_at_call_of 97 (Value.slice V12 (ln (ab (nb (x.mul (fr (na y) (-nb y) 1))))) (ln (ab (nb (x.mul (fr (na y) (-nb y) 1)))))); refine (scaled_any (nb (x.mul (fr (na y) (-nb y) 1))) (nd y) V12 D3 _ (by exact hv12) (by exact d3) (by have := HSZ.out; unfold sz at this; omega) (by have := HSY.out; unfold sz at this; omega)).mono ?_; rintro e w7 ⟨E4, rfl, d4, hb7⟩; replace s0_0 := keepc hb7 s0_0 l0; replace s0_1 := keepc hb7 s0_1 l0; replace s0_2 := keepc hb7 s0_2 l0; replace s0_3 := keepc hb7 s0_3 l0; replace s0_4 := keepc hb7 s0_4 l0; replace s1_0 := keepc hb7 s1_0 l1; replace s1_1 := keepc hb7 s1_1 l1; replace s1_2 := keepc hb7 s1_2 l1; replace s1_3 := keepc hb7 s1_3 l1; replace s1_4 := keepc hb7 s1_4 l1; replace t0_0 := keepc hb7 t0_0 l100; replace t0_1 := keepc hb7 t0_1 l100; replace t1_0 := keepc hb7 t1_0 l101; replace t1_1 := keepc hb7 t1_1 l101; replace t1_2 := keepc hb7 t1_2 l101; replace t1_3 := keepc hb7 t1_3 l101; replace t1_4 := keepc hb7 t1_4 l101; replace r0 := keepc hb7 r0 l2; replace f0 := keepf hb7 f0 l2; replace r1 := keepc hb7 r1 l2; replace f1 := keepf hb7 f1 l2; replace r2 := keepc hb7 r2 l2; replace f2 := keepf hb7 f2 l2; replace r3 := keepc hb7 r3 l2; replace f3 := keepf hb7 f3 l2; replace r4 := keepc hb7 r4 l2; replace f4 := keepf hb7 f4 l2; replace l0 := Nat.lt_of_lt_of_le l0 hb7.size; replace l1 := Nat.lt_of_lt_of_le l1 hb7.size; replace l2 := Nat.lt_of_lt_of_le l2 hb7.size; replace l100 := Nat.lt_of_lt_of_le l100 hb7.size; replace l101 := Nat.lt_of_lt_of_le l101 hb7.size; replace hx1 := hx1.to hb7; replace hx2 := hx2.to hb7; replace hx3 := hx3.to hb7; replace hy1 := hy1.to hb7; replace hy2 := hy2.to hb7; replace hy3 := hy3.to hb7; replace hv0 := hv0.to hb7; replace hv11 := hv11.to hb7; replace hv12 := hv12.to hb7; replace hv13 := hv13.to hb7; replace d1 := d1.to hb7; replace d2 := d2.to hb7; replace d3 := d3.to hb7; replace HW := Lib.hid (hstep HW hb7); clear hb7)
    | (go_at_call_of 89 (Value.agg #[.bool (sn (na (x.mul (fr (na y) (-nb y) 1)))), .slice V11 (ln (ab (na (x.mul (fr (na y) (-nb y) 1))))) (ln (ab (na (x.mul (fr (na y) (-nb y) 1))))), .bool (sn (nb (x.mul (fr (na y) (-nb y) 1)))), .slice V12 (ln (ab (nb (x.mul (fr (na y) (-nb y) 1))))) (ln (ab (nb (x.mul (fr (na y) (-nb y) 1))))), .slice V13 (ln (un (x.mul (fr (na y) (-nb y) 1)))) (ln (un (x.mul (fr (na y) (-nb y) 1))))]); refine (den_any (x.mul (fr (na y) (-nb y) 1)) V11 V12 V13 _ (by exact num3_mk hv11 hv12 hv13)).mono ?_; rintro e w8 ⟨D5, rfl, d5, hb8⟩; replace s0_0 := keepc hb8 s0_0 l0; replace s0_1 := keepc hb8 s0_1 l0; replace s0_2 := keepc hb8 s0_2 l0; replace s0_3 := keepc hb8 s0_3 l0; replace s0_4 := keepc hb8 s0_4 l0; replace s1_0 := keepc hb8 s1_0 l1; replace s1_1 := keepc hb8 s1_1 l1; replace s1_2 := keepc hb8 s1_2 l1; replace s1_3 := keepc hb8 s1_3 l1; replace s1_4 := keepc hb8 s1_4 l1; replace t0_0 := keepc hb8 t0_0 l100; replace t0_1 := keepc hb8 t0_1 l100; replace t1_0 := keepc hb8 t1_0 l101; replace t1_1 := keepc hb8 t1_1 l101; replace t1_2 := keepc hb8 t1_2 l101; replace t1_3 := keepc hb8 t1_3 l101; replace t1_4 := keepc hb8 t1_4 l101; replace r0 := keepc hb8 r0 l2; replace f0 := keepf hb8 f0 l2; replace r1 := keepc hb8 r1 l2; replace f1 := keepf hb8 f1 l2; replace r2 := keepc hb8 r2 l2; replace f2 := keepf hb8 f2 l2; replace r3 := keepc hb8 r3 l2; replace f3 := keepf hb8 f3 l2; replace r4 := keepc hb8 r4 l2; replace f4 := keepf hb8 f4 l2; replace l0 := Nat.lt_of_lt_of_le l0 hb8.size; replace l1 := Nat.lt_of_lt_of_le l1 hb8.size; replace l2 := Nat.lt_of_lt_of_le l2 hb8.size; replace l100 := Nat.lt_of_lt_of_le l100 hb8.size; replace l101 := Nat.lt_of_lt_of_le l101 hb8.size; replace hx1 := hx1.to hb8; replace hx2 := hx2.to hb8; replace hx3 := hx3.to hb8; replace hy1 := hy1.to hb8; replace hy2 := hy2.to hb8; replace hy3 := hy3.to hb8; replace hv0 := hv0.to hb8; replace hv11 := hv11.to hb8; replace hv12 := hv12.to hb8; replace hv13 := hv13.to hb8; replace d1 := d1.to hb8; replace d2 := d2.to hb8; replace d3 := d3.to hb8; replace d4 := d4.to hb8; replace HW := Lib.hid (hstep HW hb8); clear hb8)
    | (go_at_call 99; refine (mul_any (nd (x.mul (fr (na y) (-nb y) 1))) (ab (na y * na y + nb y * nb y)) D5 V0 _ (by exact d5) (by exact hv0) (by have := HSZ.out; unfold sz at this; omega) (by have h := (ab_add_ln (K := 274877906944) (ab_mul_ln HSY.out.1 HSY.out.1) (ab_mul_ln HSY.out.2.1 HSY.out.2.1)); have h3 := HSX.out; have h4 := HSY.out; have h5 := HSZ.out; unfold sz at h3 h4 h5; omega)).mono ?_; rintro e w9 ⟨E6, rfl, d6, hb9⟩; replace s0_0 := keepc hb9 s0_0 l0; replace s0_1 := keepc hb9 s0_1 l0; replace s0_2 := keepc hb9 s0_2 l0; replace s0_3 := keepc hb9 s0_3 l0; replace s0_4 := keepc hb9 s0_4 l0; replace s1_0 := keepc hb9 s1_0 l1; replace s1_1 := keepc hb9 s1_1 l1; replace s1_2 := keepc hb9 s1_2 l1; replace s1_3 := keepc hb9 s1_3 l1; replace s1_4 := keepc hb9 s1_4 l1; replace t0_0 := keepc hb9 t0_0 l100; replace t0_1 := keepc hb9 t0_1 l100; replace t1_0 := keepc hb9 t1_0 l101; replace t1_1 := keepc hb9 t1_1 l101; replace t1_2 := keepc hb9 t1_2 l101; replace t1_3 := keepc hb9 t1_3 l101; replace t1_4 := keepc hb9 t1_4 l101; replace r0 := keepc hb9 r0 l2; replace f0 := keepf hb9 f0 l2; replace r1 := keepc hb9 r1 l2; replace f1 := keepf hb9 f1 l2; replace r2 := keepc hb9 r2 l2; replace f2 := keepf hb9 f2 l2; replace r3 := keepc hb9 r3 l2; replace f3 := keepf hb9 f3 l2; replace r4 := keepc hb9 r4 l2; replace f4 := keepf hb9 f4 l2; replace l0 := Nat.lt_of_lt_of_le l0 hb9.size; replace l1 := Nat.lt_of_lt_of_le l1 hb9.size; replace l2 := Nat.lt_of_lt_of_le l2 hb9.size; replace l100 := Nat.lt_of_lt_of_le l100 hb9.size; replace l101 := Nat.lt_of_lt_of_le l101 hb9.size; replace hx1 := hx1.to hb9; replace hx2 := hx2.to hb9; replace hx3 := hx3.to hb9; replace hy1 := hy1.to hb9; replace hy2 := hy2.to hb9; replace hy3 := hy3.to hb9; replace hv0 := hv0.to hb9; replace hv11 := hv11.to hb9; replace hv12 := hv12.to hb9; replace hv13 := hv13.to hb9; replace d1 := d1.to hb9; replace d2 := d2.to hb9; replace d3 := d3.to hb9; replace d4 := d4.to hb9; replace d5 := d5.to hb9; replace HW := Lib.hid (hstep HW hb9); clear hb9)
    | (go_at_call 96; refine (over_any (na (x.mul (fr (na y) (-nb y) 1)) * (nd y : Int)) (nb (x.mul (fr (na y) (-nb y) 1)) * (nd y : Int)) (nd (x.mul (fr (na y) (-nb y) 1)) * ab (na y * na y + nb y * nb y)) E2 E4 E6 _ (by exact d2) (by exact d4) (by exact d6) (by have h := (ab_mul_ln HSZ.out.1 (ab_nat_ln HSY.out.2.2)); have h3 := HSX.out; have h4 := HSY.out; have h5 := HSZ.out; unfold sz at h3 h4 h5; omega) (by have h := (ab_mul_ln HSZ.out.2.1 (ab_nat_ln HSY.out.2.2)); have h3 := HSX.out; have h4 := HSY.out; have h5 := HSZ.out; unfold sz at h3 h4 h5; omega) (by have h := (nat_mul_ln HSZ.out.2.2 (ab_add_ln (K := 274877906944) (ab_mul_ln HSY.out.1 HSY.out.1) (ab_mul_ln HSY.out.2.1 HSY.out.2.1))); have h3 := HSX.out; have h4 := HSY.out; have h5 := HSZ.out; unfold sz at h3 h4 h5; omega) HN.out).mono ?_; rintro e w10 ⟨Z1, Z2, Z3, rfl, d7, hb10⟩; replace s0_0 := keepc hb10 s0_0 l0; replace s0_1 := keepc hb10 s0_1 l0; replace s0_2 := keepc hb10 s0_2 l0; replace s0_3 := keepc hb10 s0_3 l0; replace s0_4 := keepc hb10 s0_4 l0; replace s1_0 := keepc hb10 s1_0 l1; replace s1_1 := keepc hb10 s1_1 l1; replace s1_2 := keepc hb10 s1_2 l1; replace s1_3 := keepc hb10 s1_3 l1; replace s1_4 := keepc hb10 s1_4 l1; replace t0_0 := keepc hb10 t0_0 l100; replace t0_1 := keepc hb10 t0_1 l100; replace t1_0 := keepc hb10 t1_0 l101; replace t1_1 := keepc hb10 t1_1 l101; replace t1_2 := keepc hb10 t1_2 l101; replace t1_3 := keepc hb10 t1_3 l101; replace t1_4 := keepc hb10 t1_4 l101; replace r0 := keepc hb10 r0 l2; replace f0 := keepf hb10 f0 l2; replace r1 := keepc hb10 r1 l2; replace f1 := keepf hb10 f1 l2; replace r2 := keepc hb10 r2 l2; replace f2 := keepf hb10 f2 l2; replace r3 := keepc hb10 r3 l2; replace f3 := keepf hb10 f3 l2; replace r4 := keepc hb10 r4 l2; replace f4 := keepf hb10 f4 l2; replace l0 := Nat.lt_of_lt_of_le l0 hb10.size; replace l1 := Nat.lt_of_lt_of_le l1 hb10.size; replace l2 := Nat.lt_of_lt_of_le l2 hb10.size; replace l100 := Nat.lt_of_lt_of_le l100 hb10.size; replace l101 := Nat.lt_of_lt_of_le l101 hb10.size; replace hx1 := hx1.to hb10; replace hx2 := hx2.to hb10; replace hx3 := hx3.to hb10; replace hy1 := hy1.to hb10; replace hy2 := hy2.to hb10; replace hy3 := hy3.to hb10; replace hv0 := hv0.to hb10; replace hv11 := hv11.to hb10; replace hv12 := hv12.to hb10; replace hv13 := hv13.to hb10; replace d1 := d1.to hb10; replace d2 := d2.to hb10; replace d3 := d3.to hb10; replace d4 := d4.to hb10; replace d5 := d5.to hb10; replace d6 := d6.to hb10; replace HW := Lib.hid (hstep HW hb10); clear hb10))
  go_wp2_with fail
  exact bodyPost_ret (v := .tuple #[.agg #[.bool (sn (na (fr (na (x.mul (fr (na y) (-nb y) 1)) * (nd y : Int)) (nb (x.mul (fr (na y) (-nb y) 1)) * (nd y : Int)) (nd (x.mul (fr (na y) (-nb y) 1)) * ab (na y * na y + nb y * nb y))))), .slice Z1 (ln (ab (na (fr (na (x.mul (fr (na y) (-nb y) 1)) * (nd y : Int)) (nb (x.mul (fr (na y) (-nb y) 1)) * (nd y : Int)) (nd (x.mul (fr (na y) (-nb y) 1)) * ab (na y * na y + nb y * nb y)))))) (ln (ab (na (fr (na (x.mul (fr (na y) (-nb y) 1)) * (nd y : Int)) (nb (x.mul (fr (na y) (-nb y) 1)) * (nd y : Int)) (nd (x.mul (fr (na y) (-nb y) 1)) * ab (na y * na y + nb y * nb y)))))), .bool (sn (nb (fr (na (x.mul (fr (na y) (-nb y) 1)) * (nd y : Int)) (nb (x.mul (fr (na y) (-nb y) 1)) * (nd y : Int)) (nd (x.mul (fr (na y) (-nb y) 1)) * ab (na y * na y + nb y * nb y))))), .slice Z2 (ln (ab (nb (fr (na (x.mul (fr (na y) (-nb y) 1)) * (nd y : Int)) (nb (x.mul (fr (na y) (-nb y) 1)) * (nd y : Int)) (nd (x.mul (fr (na y) (-nb y) 1)) * ab (na y * na y + nb y * nb y)))))) (ln (ab (nb (fr (na (x.mul (fr (na y) (-nb y) 1)) * (nd y : Int)) (nb (x.mul (fr (na y) (-nb y) 1)) * (nd y : Int)) (nd (x.mul (fr (na y) (-nb y) 1)) * ab (na y * na y + nb y * nb y)))))), .slice Z3 (ln (un (fr (na (x.mul (fr (na y) (-nb y) 1)) * (nd y : Int)) (nb (x.mul (fr (na y) (-nb y) 1)) * (nd y : Int)) (nd (x.mul (fr (na y) (-nb y) 1)) * ab (na y * na y + nb y * nb y))))) (ln (un (fr (na (x.mul (fr (na y) (-nb y) 1)) * (nd y : Int)) (nb (x.mul (fr (na y) (-nb y) 1)) * (nd y : Int)) (nd (x.mul (fr (na y) (-nb y) 1)) * ab (na y * na y + nb y * nb y)))))], .int .i64 0]) (by simp [results, Tryz.results32, go_sem, r0, r1, r2, r3, r4, f0, f1, f2, f3, f4]) rfl (retNumE_fin HW d7 (by omega) r0)

theorem sz_div {K : Nat} {x y : Cx} (hK : 1 ≤ K) (hx : sz K x) (hy : sz K y) (h0 : y ≠ Cx.zero) : sz (4 * K + 2) (x.div y) := by
  rw [← div_fr x h0]
  have hz := sz_mul hx (fr_sz (a := na y) (b := -nb y) (d := 1) (by omega) hy.1 (by rw [ab_neg]; exact hy.2.1) (by rw [ln_one]; exact hK))
  refine fr_sz (div_ne x h0) ?_ ?_ ?_
  · have := ab_mul_ln hz.1 (ab_nat_ln hy.2.2); omega
  · have := ab_mul_ln hz.2.1 (ab_nat_ln hy.2.2); omega
  · have h1 := ab_add_ln (ab_mul_ln hy.1 hy.1) (ab_mul_ln hy.2.1 hy.2.1); have := nat_mul_ln hz.2.2 h1; omega

end Go.Proofs.YtgpmlhpgdalheaaGreat
